/- Texts of this claim, put together: RN A1 A2 Sp A0. -/
import Derived.Test.YtcnedkkcgdkioaaGreatKSa
import Derived.Laws.StructEq

set_option maxRecDepth 100000
set_option maxHeartbeats 12800000
namespace Go.Proofs.YtcnedkkcgdkioaaGreat
open Go.RowKit
def Lo:Obj->Prop
 | .loop _=>True
 | .deferred _=>True
 | _=>False
structure KeepL (W W':World):Prop where
 size:W.heap.size<=W'.heap.size
 objs:∀(k:Nat) (o:Obj),W.heap[k]? = some o->Lo o->W'.heap[k]? = some o
theorem KeepL.trans {A B C:World}(h:KeepL A B) (g:KeepL B C):KeepL A C:=⟨Nat.le_trans h.size g.size,fun k o ho hl=>g.objs k o (h.objs k o ho hl) hl⟩
theorem KeepL.below {A B:World}(h:Below A.heap.size A B):KeepL A B:=⟨h.size,fun k _ ho _=>(h.block k (Array.getElem?_eq_some_iff.1 ho).1).trans ho⟩
theorem KeepL.of {A B:World}(hs:A.heap.size<=B.heap.size) {cs:Array Value}{t:TypeId}{b:Nat}(hb:A.heap[b]? = some (.cells cs t)) (h:∀k,k < A.heap.size->k ≠ b->B.heap[k]? = A.heap[k]?):KeepL A B:=⟨hs,fun k o ho hl=>by
 refine(h k (Array.getElem?_eq_some_iff.1 ho).1 fun e=>?_).trans ho;subst e;rw[hb] at ho;injection ho with ho;subst ho;exact hl⟩
theorem KeepL.setCell {W:World}{p:Addr}{cs:Array Value}{t:TypeId}(hb:W.heap[p.block]? = some (.cells cs t)) (v:Value):KeepL W (W.setCell p v):=
 KeepL.of (by simp[World.setCell]) hb fun k _ hk=>Below.heap_setCell W p v k hk
theorem KeepL.grown {A B:World}{row:Option Nat}(h:A.grownBy B row) (hr:∀g,row=some g->∃cs t,A.heap[g]? = some (.cells cs t)):KeepL A B:=⟨h.size,fun k o ho hl=>by
 refine(h.block k (Array.getElem?_eq_some_iff.1 ho).1 fun e=>?_).trans ho;obtain⟨cs,t,hg⟩:=hr k e.symm;rw[ho] at hg;injection hg with hg;subst hg;exact hl⟩
def SeqN {α:Type}(P:Program) (g:Nat) (lb:Array Value) (enc:α->Array Value) (R:List α->α->Prop) (S:List α->Prop) (Rd:World->Prop):Prop:=
 ∀(l:Nat) (J Jx:List α->World->Prop) (W:World),(∀pre W,J pre W->Rd W)->
  (∀pre x W1,J pre W1->R pre x->YieldAt Fence.wide 0 P l (enc x) W1 fun e W'=>(e = .returned (.bool true)/\J (pre ++ [x]) W')\/(e = .returned (.bool false)/\Jx (pre ++ [x]) W'))->
  J [] W->
  CallsIn Fence.wide 0 P g (#[.func (.yield l) #[] #[]]++lb) W fun e W'=>(∃v,e = .returned v)/\((∃xs,S xs/\J xs W')\/∃pre,Jx pre W')
def bodyN {α:Type}(I:List α->World->Prop) (Ix:Code->List α->World->Prop) (xs:List α) (W:World):Exit->Act->World->Prop
 | .normal,_,W'=>KeepL W W'/\I xs W'
 | .ret,_,W'=>KeepL W W'/\Ix .ret xs W'
 | .exit id,_,W'=>KeepL W W'/\Ix (.exit id) xs W'
 | .goto t,_,W'=>KeepL W W'/\Ix (.goto t) xs W'
 | .panic _,_,_=>False
 | .outgrown,_,_=>False
theorem wpIn_rfN {P:Program}{α:Type}{g:Operand}{ps:Array Tmp}{assign body:Code}{Q:Exit->Act->World->Prop}{a:Act}{w:World}
  {gf:Nat} {lb:Array Value} (hg:a.eval g = .func (.func gf) #[] lb) (eg:∀args w,(callFunc gf args).run P w = .ok (.enter gf args) w)
  {enc:α->Array Value} {R:List α->α->Prop} {S:List α->Prop} {Rd:World->Prop} (hseq:SeqN P gf lb enc R S Rd)
  (hps:∀x,(enc x).size=ps.size)
  (I:List α->World->Prop) (Ix:Code->List α->World->Prop) (hI:∀(pre:List α) (W:World) (k:Nat) (o o':Obj),w.heap.size<=k->Lo o'->I pre W->W.heap[k]? = some o->Lo o->I pre (W.putObj k o')) (hIx:∀(c:Code) (pre:List α) (W:World) (k:Nat) (o o':Obj),w.heap.size<=k->Lo o'->Ix c pre W->W.heap[k]? = some o->Lo o->Ix c pre (W.putObj k o')) (hIa:∀(W:World) (o:Obj),Lo o->I [] W->I [] (W.alloc o))
  (hrd:∀pre W,I pre W->Rd W) (h0:I [] w) (a₁:α->Act)
  (hassign:∀(l:Nat) (x:α) (W:World) (K:Act->World->Prop),K (a₁ x) W->
   assign.wpIn (Fence.wide.inRound l) 0 P (Exit.then K (fun _ _ _=>False)) { tmps:=(ps.zip (enc x)).foldl (fun t (p,v)=>t.setIfInBounds p v) a.tmps,defers:=[] } W)
  (hbody:∀(l:Nat) (pre:List α) (x:α) (W:World),I pre W->R pre x->body.wpIn (Fence.wide.inRound l) 0 P (bodyN I Ix (pre ++ [x]) W) (a₁ x) W)
  (hdone:∀(d:Nat) (xs:List α) (W:World),S xs->I xs W->w.heap.size<=d->W.heap[d]? = some (.deferred (some []))->Q .normal { a with defers:={ target:=.collected d,args:=#[] }::a.defers } W)
  (hstop:∀(d:Nat) (c:Code) (pre:List α) (W:World),Ix c pre W->w.heap.size<=d->W.heap[d]? = some (.deferred (some []))->c.wpIn Fence.wide 0 P Q { a with defers:={ target:=.collected d,args:=#[] }::a.defers } W) :
  (Code.rangeFunc g ps assign body).wpIn Fence.wide 0 P Q a w:=by
 refine wpIn_rangeFunc fun fn _=>?_;obtain⟨d,hd⟩:=exF (w.heap.size);obtain⟨l,hl⟩:=exF (w.heap.size+1);obtain⟨rec,hrec⟩:∃rec:LoopState->Option Code->Loop,rec=fun st pe=>{ state:=st,pending:=pe,fn:=fn,tmps:=a.tmps,params:=ps,assign:=assign,body:=body,defers:=d }:=⟨_,rfl⟩;obtain⟨W1,hW1⟩:=exE ((w.alloc (.deferred (some []))).alloc (.loop (rec .ready none)))
 have hl1:W1.heap[l]? = some (.loop (rec .ready none)):=by
  rw[<-hW1,hl];have:=World.alloc_heap_new (w.alloc (.deferred (some []))) (.loop (rec .ready none));rwa [World.size_alloc] at this
 have hd1:W1.heap[d]? = some (.deferred (some [])):=by
  rw[<-hW1,hd];exact(Below.heap_alloc _ _ _ (by simp)).trans (World.alloc_heap_new w _)
 have hdl:d ≠ l:=by omega
 let J:List α->World->Prop:=fun pre W=>I pre W/\W.heap[l]? = some (.loop (rec .ready none))/\W.heap[d]? = some (.deferred (some []))
 let Jx:List α->World->Prop:=fun pre W=>∃c,Ix c pre W/\W.heap[l]? = some (.loop (rec .done (some c)))/\W.heap[d]? = some (.deferred (some []))
 refine⟨l,[{ target:=.collected d,args:=#[] }],W1,{ target:=.fn (.func gf) lb,args:=#[.func (.yield l) #[] #[]] },W1,gf,#[.func (.yield l) #[] #[]]++lb,W1,?_,?_,?_,?_,?_,?_⟩
 ·rw[<-hW1,hrec,hl,hd];exact run_enterLoop_outer _ _ _ _ _
 ·simp only[resolve,hg];simp[go_sem]
 ·intro f' hf';trivial
 ·simp[invoke,go_sem,eg]
 ·intro h;simp[Fence.wide] at h
 refine(hseq l J Jx W1 (fun pre W h=>hrd pre W h.1) ?_ ?_).mono ?_
 ·-- a round
  rintro pre x W ⟨h1,h7,h8⟩ hRx;have hlW:l < W.heap.size:=(Array.getElem?_eq_some_iff.1 h7).1;have hy:=run_yield (P:=P) (args:=enc x) h7 (by rw[hrec];exact hps x);rw[hrec] at hy;refine⟨fn,_,assign,body,hy,roundIn_of_wpIn trivial (hassign l x W _ ⟨_,run_beginRound h7 (by rw[hrec]),?_⟩)⟩;obtain⟨W2,hW2⟩:∃W2,W2=W.putObj l (.loop { rec .ready none with state:=.busy }):=⟨_,rfl⟩;have g7:W2.heap[l]? = some (.loop { rec .ready none with state:=.busy }):=by rw[hW2];exact World.putObj_heap_same hlW
  have g8:W2.heap[d]? = some (.deferred (some [])):=by rw[hW2];exact(World.putObj_heap_other hdl).trans h8
  have gI:I pre W2:=by rw[hW2];exact hI pre W l _ _ (by omega) trivial h1 h7 trivial
  rw[<-hW2];refine wpIn_mono (hbody l pre x W2 gI hRx) ?_
  have fin:∀(jump:Option Code) (W3:World),KeepL W2 W3->
    (Instr.endRound l jump).run P W3 = .ok (.bool jump.isNone) (W3.putObj l (.loop (rec (if jump.isNone then .ready else .done) jump)))/\
    (W3.putObj l (.loop (rec (if jump.isNone then .ready else .done) jump))).heap[l]? = some (.loop (rec (if jump.isNone then .ready else .done) jump))/\
    (W3.putObj l (.loop (rec (if jump.isNone then .ready else .done) jump))).heap[d]? = some (.deferred (some []))/\W3.heap[l]? = some (.loop { rec .ready none with state:=.busy }):=by
   intro jump W3 k1;have hl3:=k1.objs l _ g7 trivial;have hl3':l < W3.heap.size:=(Array.getElem?_eq_some_iff.1 hl3).1;have hend:=run_endRound (P:=P) jump hl3;exact⟨by rw[hrec] at hend|-;exact hend,World.putObj_heap_same hl3',(World.putObj_heap_other hdl).trans (k1.objs d _ g8 trivial),hl3⟩
  rintro e a3 W3 hp;cases e with
  | normal=>
   obtain⟨f1,f2,f3,f4⟩:=fin none W3 hp.1;exact⟨_,_,f1,.inl ⟨rfl,hI _ W3 l _ _ (by omega) trivial hp.2 f4 trivial,f2,f3⟩⟩
  | ret=>
   obtain⟨f1,f2,f3,f4⟩:=fin (some .ret) W3 hp.1;exact⟨_,_,f1,.inr ⟨rfl,_,hIx _ _ W3 l _ _ (by omega) trivial hp.2 f4 trivial,f2,f3⟩⟩
  | exit id=>
   obtain⟨f1,f2,f3,f4⟩:=fin (some (.exit id)) W3 hp.1;exact⟨_,_,f1,.inr ⟨rfl,_,hIx _ _ W3 l _ _ (by omega) trivial hp.2 f4 trivial,f2,f3⟩⟩
  | goto t=>
   obtain⟨f1,f2,f3,f4⟩:=fin (some (.goto t)) W3 hp.1;exact⟨_,_,f1,.inr ⟨rfl,_,hIx _ _ W3 l _ _ (by omega) trivial hp.2 f4 trivial,f2,f3⟩⟩
  | panic ch=>exact hp.elim
  | outgrown=>exact hp.elim
 ·refine⟨?_,hl1,hd1⟩;have e1:=hIa w (.deferred (some [])) trivial h0;rw[<-hW1];exact hIa _ (.loop (rec .ready none)) trivial e1
 ·-- behind the iterator
  rintro e W2 ⟨⟨v,rfl⟩,(⟨xs,hS,h1,h7,h8⟩|⟨pre,c,h1,h7,h8⟩)⟩
  ·have hend:=run_endLoop (P:=P) h7 (by rw[hrec];simp);rw[hrec] at hend;exact⟨none,_,hend,hdone d xs _ hS (hI _ W2 l _ _ (by omega) trivial h1 h7 trivial) (by omega) ((World.putObj_heap_other hdl).trans h8)⟩
  ·have hend:=run_endLoop (P:=P) h7 (by rw[hrec];simp);rw[hrec] at hend;exact⟨some c,_,hend,hstop d c pre _ (hIx c _ W2 l _ _ (by omega) trivial h1 h7 trivial) (by omega) ((World.putObj_heap_other hdl).trans h8)⟩
theorem powN (n:Int) (h1:1<=n) (h5:n<=5):n=1\/n=2\/n=3\/n=4\/n=5:=by omega
def fullI (n:Int):Int:=if n=1 then 1 else if n=2 then 3 else if n=3 then 7 else if n=4 then 15 else 31
theorem fullI_le (n:Int):1<=fullI n/\fullI n<=31:=by unfold fullI;split;omega;split;omega;split;omega;split;omega;omega
def twoI (p:Int):Int:=if p=0 then 1 else if p=1 then 2 else if p=2 then 4 else if p=3 then 8 else if p=4 then 16 else 32
theorem fullCall (n:Int) (w:World) (h1:1<=n) (h5:n<=5):Calls Tryz.prog 278 #[.int .i64 n] w fun e w'=>e = .returned (.int .i64 (fullI n))/\w=w':=by
 rcases powN n h1 h5 with rfl|rfl|rfl|rfl|rfl<;>
 ·go_enter Tryz.func278,Tryz.ntmps278
  go_wp2;go_ret;exact⟨rfl,rfl⟩
theorem powerCall (n:Int) (w:World) (h1:0<=n) (h5:n<=5):Calls Tryz.prog 182 #[.int .i64 n] w fun e w'=>e = .returned (.int .i64 (twoI n))/\w=w':=by
 go_enter Tryz.func182,Tryz.ntmps182
 go_wp2;go_loop [3,4] (fun o i=>∃k:Int,0<=k/\k<=n/\i = .int .i64 k/\o = .int .i64 (twoI k)) (fun _ i=>(n - intOf i).toNat)
 case atStart=>exact⟨0,by omega,by omega,rfl,rfl⟩
 case round=>
  obtain⟨k,hk0,hk,rfl,rfl⟩:=hrel;by_cases hlt:k < n
  ·have hs:twoI (k+1)=twoI k * 2:=by
    have:k=0\/k=1\/k=2\/k=3\/k=4:=by omega
    rcases this with rfl|rfl|rfl|rfl|rfl<;>decide
   have hb:1<=twoI k/\twoI k<=32:=(by unfold twoI;split;omega;split;omega;split;omega;split;omega;split;omega;omega);obtain⟨hb1,hb2⟩:=hb;obtain⟨t,ht⟩:=exE (twoI k);rw[ht] at hs hb1 hb2|-;replace hs:=qH hs;clear ht;go_wp2;go_round
   case rel=>exact⟨k+1,by omega,by omega,rfl,by rw[hs.out]⟩
   case measure=>simp[intOf];omega
  ·obtain rfl:k=n:=(by omega);go_wp2;go_ret;exact⟨rfl,rfl⟩
theorem refFull (n:Int) (w:World) (h1:1<=n) (h5:n<=5):Calls Tryz.prog 183 #[.int .i64 n] w fun e w'=>e = .returned (.int .i64 (fullI n))/\w=w':=by
 have H:=qH (powerCall n w (by omega) h5);have e:fullI n=twoI n - 1:=by rcases powN n h1 h5 with rfl|rfl|rfl|rfl|rfl<;>decide
 have hb:1<=twoI n/\twoI n<=32:=by rcases powN n h1 h5 with rfl|rfl|rfl|rfl|rfl<;>decide
 obtain⟨hb1,hb2⟩:=hb;obtain⟨t,ht⟩:=exE (twoI n);rw[ht] at e hb1 hb2 H;replace e:=qH e;clear ht;go_enter Tryz.func183,Tryz.ntmps183
 go_wp2_with (go_at_call 182;refine H.out.mono ?_;rintro e w' ⟨rfl,rfl⟩)
 go_ret;exact⟨ret_int e.out.symm,rfl⟩
def hasI (x p:Int):Bool:=x / twoI p % 2 == 1
theorem refHas (x p:Int) (w:World) (h0:0<=x) (hx:x<=1000000) (h1:0<=p) (h5:p<=5):Calls Tryz.prog 122 #[.int .i64 x,.int .i64 p] w fun e w'=>e = .returned (.bool (hasI x p))/\w=w':=by
 have H:=qH (powerCall p w h1 h5);have hb:1<=twoI p/\twoI p<=32:=by unfold twoI;split;omega;split;omega;split;omega;split;omega;split;omega;omega
 obtain⟨hb1,hb2⟩:=hb;have e:=qH (show hasI x p=(x / twoI p % 2 == 1) from rfl);obtain⟨t,ht⟩:=exE (twoI p);rw[ht] at e hb1 hb2 H;have ht0:t ≠ 0:=by omega
 have hq1:0<=x / t:=Int.ediv_nonneg h0 (by omega);have hq2:x / t<=1000000:=Int.le_trans (Int.ediv_le_self _ h0) hx;clear ht;go_enter Tryz.func122,Tryz.ntmps122
 go_wp2_with (go_at_call 182;refine H.out.mono ?_;rintro e w' ⟨rfl,rfl⟩)
 go_ret;exact⟨ret_bool e.out.symm,rfl⟩
def procE (n:Int):Int:=if n < 1\/5 < n then 1 else 0
theorem refProcs (n:Int) (w:World):Calls Tryz.prog 277 #[.int .i64 n] w fun e w'=>e = .returned (.int .i64 (procE n))/\w=w':=by
 by_cases h1:n < 1
 ·go_enter Tryz.func277,Tryz.ntmps277
  go_wp2;go_ret;exact⟨ret_int (by rw[procE,if_pos (.inl h1)]),rfl⟩
 ·have h1':decide (n < 1)=false:=by simpa using h1
  by_cases h5:5 < n
  ·go_enter Tryz.func277,Tryz.ntmps277
   go_wp2;go_ret;exact⟨ret_int (by rw[procE,if_pos (.inr h5)]),rfl⟩
  ·have h5':decide (5 < n)=false:=(by simpa using h5);go_enter Tryz.func277,Tryz.ntmps277
   go_wp2;go_ret;exact⟨ret_int (by rw[procE,if_neg (by omega)]),rfl⟩
theorem procs (n:Int) (w:World):Calls Tryz.prog 279 #[.int .i64 n] w fun e w'=>e = .returned (.int .i64 (procE n))/\w=w':=by
 by_cases h1:n < 1
 ·go_enter Tryz.func279,Tryz.ntmps279
  go_wp2;go_ret;exact⟨ret_int (by rw[procE,if_pos (.inl h1)]),rfl⟩
 ·have h1':decide (n < 1)=false:=by simpa using h1
  by_cases h5:5 < n
  ·go_enter Tryz.func279,Tryz.ntmps279
   go_wp2;go_ret;exact⟨ret_int (by rw[procE,if_pos (.inr h5)]),rfl⟩
  ·have h5':decide (5 < n)=false:=(by simpa using h5);go_enter Tryz.func279,Tryz.ntmps279
   go_wp2;go_ret;exact⟨ret_int (by rw[procE,if_neg (by omega)]),rfl⟩
def hErr (n p x:Int):Int:=if n<=p then (if x=0 then 0 else 3) else if x < 0\/fullI n < x then 2 else if hasI x p then 0 else 3
def hGo (n:Int):Int->List Int->Int
 | _,[]=>0
 | p,x::r=>if hErr n p x ≠ 0 then hErr n p x else hGo n (p+1) r
def chkGr (n:Int) (hs:List Int):Int:=if n < 1\/5 < n then 2 else hGo n 0 hs
def chkSet (n x:Int):Int:=if procE n ≠ 0 then 1 else if x < 0\/twoI n<=x then 2 else 0
theorem and1_ok:((List.range 32).all fun x=>(List.range 5).all fun p=>decide (bits .and .i64 ((x:Int) / twoI p) 1=if hasI x p then 1 else 0))=true:=by decide +kernel
theorem and1 {x p:Int}(h0:0<=x) (h1:x<=31) (hp0:0<=p) (hp:p<=4):bits .and .i64 (x / twoI p) 1=if hasI x p then 1 else 0:=by
 have:=List.all_eq_true.1 (List.all_eq_true.1 and1_ok x.toNat (by rw[List.mem_range];omega)) p.toNat (by rw[List.mem_range];omega)
 have:=of_decide_eq_true this
 rwa [show((x.toNat:Nat):Int)=x by omega,show((p.toNat:Nat):Int)=p by omega] at this
theorem ix0 (a b c d e:Value) (w:World):(Instr.index 112 (.agg #[a,b,c,d,e]) (.int .i64 0)).run Tryz.prog w = .ok a w:=by kernel_rfl
theorem ix1 (a b c d e:Value) (w:World):(Instr.index 112 (.agg #[a,b,c,d,e]) (.int .i64 1)).run Tryz.prog w = .ok b w:=by kernel_rfl
theorem ix2 (a b c d e:Value) (w:World):(Instr.index 112 (.agg #[a,b,c,d,e]) (.int .i64 2)).run Tryz.prog w = .ok c w:=by kernel_rfl
theorem ix3 (a b c d e:Value) (w:World):(Instr.index 112 (.agg #[a,b,c,d,e]) (.int .i64 3)).run Tryz.prog w = .ok d w:=by kernel_rfl
theorem ix4 (a b c d e:Value) (w:World):(Instr.index 112 (.agg #[a,b,c,d,e]) (.int .i64 4)).run Tryz.prog w = .ok e w:=by kernel_rfl
theorem ixN (a b c d e:Int) {k:Nat}(h:k < 5) (w:World):(Instr.index 112 (.agg #[.int .i64 a,.int .i64 b,.int .i64 c,.int .i64 d,.int .i64 e]) (.int .i64 (k:Int))).run Tryz.prog w = .ok (.int .i64 ([a,b,c,d,e].getD k 0)) w:=by
 rcases(show k=0\/k=1\/k=2\/k=3\/k=4 by omega) with rfl|rfl|rfl|rfl|rfl
 ·exact ix0 _ _ _ _ _ w
 ·exact ix1 _ _ _ _ _ w
 ·exact ix2 _ _ _ _ _ w
 ·exact ix3 _ _ _ _ _ w
 ·exact ix4 _ _ _ _ _ w
theorem dropN (a b c d e:Int) {k:Nat}(h:k < 5) : [a,b,c,d,e].drop k = [a,b,c,d,e].getD k 0::[a,b,c,d,e].drop (k+1):=by
 rcases(show k=0\/k=1\/k=2\/k=3\/k=4 by omega) with rfl|rfl|rfl|rfl|rfl<;>rfl
theorem and1N {x:Int}{k:Nat}(h0:0<=x) (h1:x<=31) (hk:k < 5):bits .and .i64 (x / 2 ^ k) 1=if hasI x (k:Int) then 1 else 0:=by
 have e:twoI (k:Int)=2 ^ k:=by
  rcases(show k=0\/k=1\/k=2\/k=3\/k=4 by omega) with rfl|rfl|rfl|rfl|rfl<;>decide
 rw[<-e];exact and1 h0 h1 (by omega) (by omega)
theorem hGo_step {n:Int}{p x:Int}{r:List Int}(h:hErr n p x=0):hGo n p (x::r)=hGo n (p+1) r:=by rw[hGo,if_neg (fun k=>k h)]
theorem hGo_stop {n:Int}{p x:Int}{r:List Int}(h:hErr n p x ≠ 0):hGo n p (x::r)=hErr n p x:=by rw[hGo,if_pos h]
theorem hGoE {k:IntKind}{n p x E c:Int}{r:List Int}(hg:hGo n p (x::r)=E) (he:hErr n p x=c) (hc:c ≠ 0):Ending.returned (.int k c) = .returned (.int k E):=ret_int (by rw[<-hg,hGo_stop (by rw[he];exact hc),he])
theorem hErr_1 {n p x:Int}(h:n<=p) (hx:x=0):hErr n p x=0:=by rw[hErr,if_pos h,if_pos hx]
theorem hErr_2 {n p x:Int}(h:n<=p) (hx : ¬x=0):hErr n p x=3:=by rw[hErr,if_pos h,if_neg hx]
theorem hErr_3 {n p x:Int}(h:p < n) (hx:x < 0\/fullI n < x):hErr n p x=2:=by rw[hErr,if_neg (by omega),if_pos hx]
theorem hErr_4 {n p x:Int}(h:p < n) (hx:0<=x/\x<=fullI n) (hb:hasI x p=false):hErr n p x=3:=by rw[hErr,if_neg (by omega),if_neg (by omega),hb];rfl
theorem hErr_5 {n p x:Int}(h:p < n) (hx:0<=x/\x<=fullI n) (hb:hasI x p=true):hErr n p x=0:=by rw[hErr,if_neg (by omega),if_neg (by omega),hb];rfl
theorem cellN {w:World}{n:Int}(h0 h1 h2 h3 h4:Int) {k:Nat}(h:k < 5):(w.alloc (.cells #[.int .i64 n,.int .i64 h0,.int .i64 h1,.int .i64 h2,.int .i64 h3,.int .i64 h4] 146)).cell? ⟨w.heap.size,1+k,none⟩=some (.int .i64 ([h0,h1,h2,h3,h4].getD k 0)):=by
 rw[cell_of_row _ w.heap.size (1+k) _ 146 (0,0) (heap_alloc_new w _)];rcases(show k=0\/k=1\/k=2\/k=3\/k=4 by omega) with rfl|rfl|rfl|rfl|rfl<;>rfl
theorem graphCheck (n h0 h1 h2 h3 h4:Int) (w:World):Calls Tryz.prog 267 #[.agg #[.int .i64 n,.int .i64 h0,.int .i64 h1,.int .i64 h2,.int .i64 h3,.int .i64 h4]] w fun e w'=>e = .returned (.int .i64 (chkGr n [h0,h1,h2,h3,h4]))/\Below w.heap.size w w':=by
 by_cases hn:n < 1\/5 < n
 ·have hE:=qH (show chkGr n [h0,h1,h2,h3,h4]=2 by rw[chkGr,if_pos hn]);by_cases hn1:n < 1
  ·go_enter Tryz.func267, Tryz.ntmps267
   go_wp2;go_ret;exact⟨ret_int hE.out.symm,(Below.refl _ _).alloc (Nat.le_refl _) _⟩
  ·have hn1':decide (n < 1)=false:=(by simpa using hn1);have hn5:5 < n:=(by omega);go_enter Tryz.func267, Tryz.ntmps267
   go_wp2;go_ret;exact⟨ret_int hE.out.symm,(Below.refl _ _).alloc (Nat.le_refl _) _⟩
 ·have hn1:decide (n < 1)=false:=decide_eq_false (by omega);have hn5:decide (5 < n)=false:=decide_eq_false (by omega);obtain⟨E,hE⟩:=exE (chkGr n [h0,h1,h2,h3,h4]);have hE0:=qH (show hGo n 0 [h0,h1,h2,h3,h4]=E by rw[<-hE,chkGr,if_neg hn]);rw[hE];have g1:1<=n:=by omega
  have g5:n<=5:=by omega
  have hF:=fun W=>fullCall n W g1 g5;obtain⟨f1,f31⟩:=fullI_le n;obtain⟨F,hFe⟩:=exE (fullI n);rw[hFe] at f1 f31;simp only[hFe] at hF;replace hF:=qH hF;replace hFe:=qH hFe;clear hn hE;go_enter Tryz.func267, Tryz.ntmps267
  go_wp2;have hb:=(Below.refl w.heap.size w).alloc (Nat.le_refl _) (.cells #[.int .i64 n,.int .i64 h0,.int .i64 h1,.int .i64 h2,.int .i64 h3,.int .i64 h4] 146);go_loop [15] (fun iv=>∃k:Nat,iv = .int .i64 (k:Int)/\k<=5/\Hid (hGo n (k:Int) ([h0,h1,h2,h3,h4].drop k)=E)) (fun iv=>5 - (intOf iv).toNat)
  case atStart=>exact⟨0,rfl,by omega,hE0⟩
  case round=>
   clear hE0;obtain⟨k,rfl,hk,hg⟩:=hrel;by_cases hlt:k < 5
   ·have hki:(k:Int) < 5:=(by omega);have hk0:(0:Int)<=(k:Int):=Int.natCast_nonneg _;have hix:=ixN h0 h1 h2 h3 h4 hlt;have hcl:=cellN (w:=w) (n:=n) h0 h1 h2 h3 h4 hlt;have hg':=hg.out;rw[dropN h0 h1 h2 h3 h4 hlt] at hg';obtain⟨x,hxx⟩:=exE ([h0,h1,h2,h3,h4].getD k 0);rw[hxx] at hcl hg';simp only[hxx] at hix;replace hg:=qH hg';have hst:Hid (hErr n (k:Int) x=0->Hid (hGo n ((k+1:Nat):Int) ([h0,h1,h2,h3,h4].drop (k+1))=E)):=fun h=>by show _=_;rw[<-hg.out,hGo_step h];rfl
    clear hg' hxx;by_cases hp0:n<=(k:Int)
    ·have hp:=qH hp0;have hp1:decide (n<=(k:Int))=true:=decide_eq_true hp0;by_cases hx:x=0
     ·have hx':(x != 0)=false:=(by simp[hx]);have hn:=hst.out (hErr_1 hp0 hx);subst hx;clear hp0;go_wp2;go_round
      case rel=>exact⟨k+1,by go_num,hlt,hn⟩
      case measure=>simp[intOf];omega
     ·have hx':(x != 0)=true:=(by simpa using hx);replace hx:=qH hx;clear hp0;go_wp2;go_ret;exact⟨hGoE hg.out (hErr_2 hp.out hx.out) (by decide),hb⟩
    ·have hp:=qH (show(k:Int) < n by omega);have hp1:decide (n<=(k:Int))=false:=decide_eq_false hp0;clear hp0;by_cases hx0:x < 0
     ·have hx:=qH (show x < 0\/fullI n < x from .inl hx0);go_wp2;go_ret;exact⟨hGoE hg.out (hErr_3 hp.out hx.out) (by decide),hb⟩
     ·have hx0':decide (x < 0)=false:=decide_eq_false hx0;by_cases hx1:F < x
      ·have hx:=qH (show x < 0\/fullI n < x from .inr (by rw[hFe.out];exact hx1));go_wp2_with (first|(go_at_call 278;refine(hF.out _).mono ?_;rintro e w1 ⟨rfl,rfl⟩))
       go_ret;exact⟨hGoE hg.out (hErr_3 hp.out hx.out) (by decide),hb⟩
      ·have hx1':decide (F < x)=false:=decide_eq_false hx1;have hx:=qH (show 0<=x/\x<=fullI n by rw[hFe.out];omega);have ha:=and1N (x:=x) (by omega) (by omega) hlt;cases hbit:hasI x (k:Int)
       ·have he:=qH (hErr_4 hp.out hx.out hbit);rw[hbit,if_neg (by decide)] at ha;go_wp2_with (first|(go_at_call 278;refine(hF.out _).mono ?_;rintro e w1 ⟨rfl,rfl⟩))
        go_ret;exact⟨hGoE hg.out he.out (by decide),hb⟩
       ·have hn:=hst.out (hErr_5 hp.out hx.out hbit);rw[hbit,if_pos rfl] at ha;go_wp2_with (first|(go_at_call 278;refine(hF.out _).mono ?_;rintro e w1 ⟨rfl,rfl⟩))
        go_round
        case rel=>exact⟨k+1,by go_num,hlt,hn⟩
        case measure=>simp[intOf];omega
   ·obtain rfl:k=5:=(by omega);go_wp2;go_ret;exact⟨ret_int (by rw[<-hg.out];rfl),hb⟩
theorem refGraphCheck (n h0 h1 h2 h3 h4:Int) (w:World):Calls Tryz.prog 264 #[.agg #[.int .i64 n,.int .i64 h0,.int .i64 h1,.int .i64 h2,.int .i64 h3,.int .i64 h4]] w fun e w'=>e = .returned (.int .i64 (chkGr n [h0,h1,h2,h3,h4]))/\Below w.heap.size w w':=by
 by_cases hn:n < 1\/5 < n
 ·have hE:=qH (show chkGr n [h0,h1,h2,h3,h4]=2 by rw[chkGr,if_pos hn]);by_cases hn1:n < 1
  ·go_enter Tryz.func264, Tryz.ntmps264
   go_wp2;go_ret;exact⟨ret_int hE.out.symm,(Below.refl _ _).alloc (Nat.le_refl _) _⟩
  ·have hn1':decide (n < 1)=false:=(by simpa using hn1);have hn5:5 < n:=(by omega);go_enter Tryz.func264, Tryz.ntmps264
   go_wp2;go_ret;exact⟨ret_int hE.out.symm,(Below.refl _ _).alloc (Nat.le_refl _) _⟩
 ·have hn1:decide (n < 1)=false:=decide_eq_false (by omega);have hn5:decide (5 < n)=false:=decide_eq_false (by omega);obtain⟨E,hE⟩:=exE (chkGr n [h0,h1,h2,h3,h4]);have hE0:=qH (show hGo n 0 [h0,h1,h2,h3,h4]=E by rw[<-hE,chkGr,if_neg hn]);rw[hE];have g1:1<=n:=by omega
  have g5:n<=5:=by omega
  have hF:=fun W=>refFull n W g1 g5;obtain⟨f1,f31⟩:=fullI_le n;obtain⟨F,hFe⟩:=exE (fullI n);rw[hFe] at f1 f31;simp only[hFe] at hF;replace hF:=qH hF;replace hFe:=qH hFe;clear hn hE;go_enter Tryz.func264, Tryz.ntmps264
  go_wp2;have hb:=(Below.refl w.heap.size w).alloc (Nat.le_refl _) (.cells #[.int .i64 n,.int .i64 h0,.int .i64 h1,.int .i64 h2,.int .i64 h3,.int .i64 h4] 146);go_loop [3] (fun iv=>∃k:Nat,iv = .int .i64 (k:Int)/\k<=5/\Hid (hGo n (k:Int) ([h0,h1,h2,h3,h4].drop k)=E)) (fun iv=>5 - (intOf iv).toNat)
  case atStart=>exact⟨0,rfl,by omega,hE0⟩
  case round=>
   clear hE0;obtain⟨k,rfl,hk,hg⟩:=hrel;by_cases hlt:k < 5
   ·have hki:(k:Int) < 5:=(by omega);have hk0:(0:Int)<=(k:Int):=Int.natCast_nonneg _;have hix:=ixN h0 h1 h2 h3 h4 hlt;have hcl:=cellN (w:=w) (n:=n) h0 h1 h2 h3 h4 hlt;have hg':=hg.out;rw[dropN h0 h1 h2 h3 h4 hlt] at hg';obtain⟨x,hxx⟩:=exE ([h0,h1,h2,h3,h4].getD k 0);rw[hxx] at hcl hg';simp only[hxx] at hix;replace hg:=qH hg';have hst:Hid (hErr n (k:Int) x=0->Hid (hGo n ((k+1:Nat):Int) ([h0,h1,h2,h3,h4].drop (k+1))=E)):=fun h=>by show _=_;rw[<-hg.out,hGo_step h];rfl
    clear hg' hxx;by_cases hp0:n<=(k:Int)
    ·have hp:=qH hp0;have hp1:decide (n<=(k:Int))=true:=decide_eq_true hp0;by_cases hx:x=0
     ·have hx':(x != 0)=false:=(by simp[hx]);have hn:=hst.out (hErr_1 hp0 hx);subst hx;clear hp0;go_wp2;go_round
      case rel=>exact⟨k+1,by go_num,hlt,hn⟩
      case measure=>simp[intOf];omega
     ·have hx':(x != 0)=true:=(by simpa using hx);replace hx:=qH hx;clear hp0;go_wp2;go_ret;exact⟨hGoE hg.out (hErr_2 hp.out hx.out) (by decide),hb⟩
    ·have hp:=qH (show(k:Int) < n by omega);have hp1:decide (n<=(k:Int))=false:=decide_eq_false hp0;clear hp0;by_cases hx0:x < 0
     ·have hx:=qH (show x < 0\/fullI n < x from .inl hx0);go_wp2;go_ret;exact⟨hGoE hg.out (hErr_3 hp.out hx.out) (by decide),hb⟩
     ·have hx0':decide (x < 0)=false:=decide_eq_false hx0;by_cases hx1:F < x
      ·have hx:=qH (show x < 0\/fullI n < x from .inr (by rw[hFe.out];exact hx1));go_wp2_with (first|(go_at_call 183;refine(hF.out _).mono ?_;rintro e w1 ⟨rfl,rfl⟩)|(go_at_call 122;refine(refHas _ _ _ (by omega) (by omega) (by omega) (by omega)).mono ?_;rintro e w2 ⟨rfl,rfl⟩;rw[hbit]))
       go_ret;exact⟨hGoE hg.out (hErr_3 hp.out hx.out) (by decide),hb⟩
      ·have hx1':decide (F < x)=false:=decide_eq_false hx1;have hx:=qH (show 0<=x/\x<=fullI n by rw[hFe.out];omega);have ha:=and1N (x:=x) (by omega) (by omega) hlt;cases hbit:hasI x (k:Int)
       ·have he:=qH (hErr_4 hp.out hx.out hbit);clear ha;go_wp2_with (first|(go_at_call 183;refine(hF.out _).mono ?_;rintro e w1 ⟨rfl,rfl⟩)|(go_at_call 122;refine(refHas _ _ _ (by omega) (by omega) (by omega) (by omega)).mono ?_;rintro e w2 ⟨rfl,rfl⟩;rw[hbit]))
        go_ret;exact⟨hGoE hg.out he.out (by decide),hb⟩
       ·have hn:=hst.out (hErr_5 hp.out hx.out hbit);clear ha;go_wp2_with (first|(go_at_call 183;refine(hF.out _).mono ?_;rintro e w1 ⟨rfl,rfl⟩)|(go_at_call 122;refine(refHas _ _ _ (by omega) (by omega) (by omega) (by omega)).mono ?_;rintro e w2 ⟨rfl,rfl⟩;rw[hbit]))
        go_round
        case rel=>exact⟨k+1,by go_num,hlt,hn⟩
        case measure=>simp[intOf];omega
   ·obtain rfl:k=5:=(by omega);go_wp2;go_ret;exact⟨ret_int (by rw[<-hg.out];rfl),hb⟩
def cmpI (a b:Int):Int:=if a < b then -1 else if b < a then 1 else 0
def cmpL:List Int->List Int->Int
 | [],[]=>0
 | [],_::_=>-1
 | _::_,[]=>1
 | a::xs,b::ys=>if cmpI a b=0 then cmpL xs ys else cmpI a b
def eqL (x y:List Int):Bool:=decide (x=y)
theorem eqL_true {x y:List Int}:eqL x y=true↔x=y:=by simp[eqL]
theorem eqL_false {x y:List Int}:eqL x y=false↔x ≠ y:=by simp[eqL]
theorem eqArr (d:Nat) (a b c e f a' b' c' e' f':Int) (w:World):(Op.equalIn (d+2) 112 (.agg #[.int .i64 a,.int .i64 b,.int .i64 c,.int .i64 e,.int .i64 f]) (.agg #[.int .i64 a',.int .i64 b',.int .i64 c',.int .i64 e',.int .i64 f'])).run Tryz.prog w = .ok (eqL [a,b,c,e,f] [a',b',c',e',f']) w:=by
 have u3:=Tryz.underlying3;have a3:=Tryz.isAgg3;have z3:=Tryz.sizeOf3;rw[show d+2=(d+1)+1 from rfl,Op.equalIn];simp only[Sem.run_bind,run_underlying Tryz.underlying112,Result.andThen_ok];simp only[Std.Legacy.Range.forIn_eq_forIn_range',Std.Legacy.Range.size,Nat.sub_zero,Nat.add_sub_cancel,Nat.div_one,List.range'_succ,List.range'_zero,List.forIn_cons,List.forIn_nil];go_simp;by_cases h1:a=a'<;>by_cases h2:b=b'<;>by_cases h3:c=c'<;>by_cases h4:e=e'<;>by_cases h5:f=f'<;>simp[eqL,h1,h2,h3,h4,h5]
theorem eqGr (d:Nat) (n a b c e f n' a' b' c' e' f':Int) (w:World):(Op.equalIn (d+3) 146 (.agg #[.int .i64 n,.int .i64 a,.int .i64 b,.int .i64 c,.int .i64 e,.int .i64 f]) (.agg #[.int .i64 n',.int .i64 a',.int .i64 b',.int .i64 c',.int .i64 e',.int .i64 f'])).run Tryz.prog w = .ok (eqL [n,a,b,c,e,f] [n',a',b',c',e',f']) w:=by
 have u3:=Tryz.underlying3;have a3:=Tryz.isAgg3;have z3:=Tryz.sizeOf3;have a5:=Tryz.isAgg112;have z5:=Tryz.sizeOf112;have hS : Tryz.prog.underlying 146=some (.struct (Tryz.prog.fieldsOf 146)):=by kernel_rfl
 have hp : Tryz.prog.stoodInHeld 146=false:=by kernel_rfl
 have hA:=eqArr d a b c e f a' b' c' e' f';rw[show d+3=(d+2)+1 from rfl,run_equalIn_agg w (d+2) 146 _ _ hS hp];simp only[Program.fieldsOf,Tryz.underlying146];go_simp;by_cases h0:n=n'<;>by_cases h1 : [a,b,c,e,f] = [a',b',c',e',f']<;>simp_all [eqL]
theorem eqRd (d:Nat) (n a b c e f g n' a' b' c' e' f' g':Int) (w:World):(Op.equalIn (d+4) 148 (.agg #[.int .i64 n,.int .i64 a,.int .i64 b,.int .i64 c,.int .i64 e,.int .i64 f,.int .i64 g]) (.agg #[.int .i64 n',.int .i64 a',.int .i64 b',.int .i64 c',.int .i64 e',.int .i64 f',.int .i64 g'])).run Tryz.prog w = .ok (eqL [n,a,b,c,e,f,g] [n',a',b',c',e',f',g']) w:=by
 have u3:=Tryz.underlying3;have a3:=Tryz.isAgg3;have z3:=Tryz.sizeOf3;have a5:=Tryz.isAgg146;have z5:=Tryz.sizeOf146;have hS : Tryz.prog.underlying 148=some (.struct (Tryz.prog.fieldsOf 148)):=by kernel_rfl
 have hp : Tryz.prog.stoodInHeld 148=false:=by kernel_rfl
 have hA:=eqGr d n a b c e f n' a' b' c' e' f';rw[show d+4=(d+3)+1 from rfl,run_equalIn_agg w (d+3) 148 _ _ hS hp];simp only[Program.fieldsOf,Tryz.underlying148];go_simp;by_cases h0:g=g'<;>by_cases h1 : [n,a,b,c,e,f] = [n',a',b',c',e',f']<;>simp_all [eqL]
theorem eqMv (d:Nat) (n a b c e f g t n' a' b' c' e' f' g' t':Int) (w:World):(Op.equalIn (d+5) 178 (.agg #[.int .i64 n,.int .i64 a,.int .i64 b,.int .i64 c,.int .i64 e,.int .i64 f,.int .i64 g,.int .i64 t]) (.agg #[.int .i64 n',.int .i64 a',.int .i64 b',.int .i64 c',.int .i64 e',.int .i64 f',.int .i64 g',.int .i64 t'])).run Tryz.prog w = .ok (eqL [n,a,b,c,e,f,g,t] [n',a',b',c',e',f',g',t']) w:=by
 have u3:=Tryz.underlying3;have a3:=Tryz.isAgg3;have z3:=Tryz.sizeOf3;have a5:=Tryz.isAgg148;have z5:=Tryz.sizeOf148;have hS : Tryz.prog.underlying 178=some (.struct (Tryz.prog.fieldsOf 178)):=by kernel_rfl
 have hp : Tryz.prog.stoodInHeld 178=false:=by kernel_rfl
 have hA:=eqRd d n a b c e f g n' a' b' c' e' f' g';rw[show d+5=(d+4)+1 from rfl,run_equalIn_agg w (d+4) 178 _ _ hS hp];simp only[Program.fieldsOf,Tryz.underlying178];go_simp;by_cases h0:t=t'<;>by_cases h1 : [n,a,b,c,e,f,g] = [n',a',b',c',e',f',g']<;>simp_all [eqL]
@[go_sem high] theorem eqGr' (n a b c e f n' a' b' c' e' f':Int) (w:World):(Op.equalIn 10000 146 (.agg #[.int .i64 n,.int .i64 a,.int .i64 b,.int .i64 c,.int .i64 e,.int .i64 f]) (.agg #[.int .i64 n',.int .i64 a',.int .i64 b',.int .i64 c',.int .i64 e',.int .i64 f'])).run Tryz.prog w = .ok (eqL [n,a,b,c,e,f] [n',a',b',c',e',f']) w:=eqGr 9997 n a b c e f n' a' b' c' e' f' w
@[go_sem high] theorem eqRd' (n a b c e f g n' a' b' c' e' f' g':Int) (w:World):(Op.equalIn 10000 148 (.agg #[.int .i64 n,.int .i64 a,.int .i64 b,.int .i64 c,.int .i64 e,.int .i64 f,.int .i64 g]) (.agg #[.int .i64 n',.int .i64 a',.int .i64 b',.int .i64 c',.int .i64 e',.int .i64 f',.int .i64 g'])).run Tryz.prog w = .ok (eqL [n,a,b,c,e,f,g] [n',a',b',c',e',f',g']) w:=eqRd 9996 n a b c e f g n' a' b' c' e' f' g' w
@[go_sem high] theorem eqMv' (n a b c e f g t n' a' b' c' e' f' g' t':Int) (w:World):(Op.equalIn 10000 178 (.agg #[.int .i64 n,.int .i64 a,.int .i64 b,.int .i64 c,.int .i64 e,.int .i64 f,.int .i64 g,.int .i64 t]) (.agg #[.int .i64 n',.int .i64 a',.int .i64 b',.int .i64 c',.int .i64 e',.int .i64 f',.int .i64 g',.int .i64 t'])).run Tryz.prog w = .ok (eqL [n,a,b,c,e,f,g,t] [n',a',b',c',e',f',g',t']) w:=eqMv 9995 n a b c e f g t n' a' b' c' e' f' g' t' w
end Go.Proofs.YtcnedkkcgdkioaaGreat
