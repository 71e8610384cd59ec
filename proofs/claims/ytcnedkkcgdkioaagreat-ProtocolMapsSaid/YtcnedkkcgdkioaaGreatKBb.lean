/- Texts of this claim, put together: RN A1 A2 Sp A0. -/
import Derived.Test.YtcnedkkcgdkioaaGreatKBa
import Derived.Laws.StructEq

set_option maxRecDepth 100000
set_option maxHeartbeats 12800000
namespace Go.Proofs.YtcnedkkcgdkioaaGreat
open Go.RowKit
def Lo:Obj->Prop
 | .loop _=>True
 | .deferred _=>True
 | _=>False
structure BR (W W':World):Prop where
 size:W.heap.size<=W'.heap.size
 objs:∀(k:Nat) (o:Obj),W.heap[k]? = some o->Lo o->W'.heap[k]? = some o
theorem BR.trans {A B C:World}(h:BR A B) (g:BR B C):BR A C:=⟨wI h.size g.size,fun k o a l=>g.objs k o (h.objs k o a l) l⟩
theorem BR.below {A B:World}(h:Below A.heap.size A B):BR A B:=⟨h.size,fun k _ o _=>(h.block k (wD.1 o).1).trans o⟩
theorem BR.of {A B:World}(hs:A.heap.size<=B.heap.size) {cs:Array Value}{t:TypeId}{b:Nat}(c:A.heap[b]? = some (.cells cs t)) (h:∀k,k < A.heap.size->k ≠ b->B.heap[k]? = A.heap[k]?):BR A B:=⟨hs,fun k o a l=>by
 refine(h k (wD.1 a).1 fun e=>?_).trans a;subst e;rw[c] at a;injection a with a;subst a;exact l⟩
theorem BR.setCell {W:World}{p:Addr}{cs:Array Value}{t:TypeId}(h:W.heap[p.block]? = some (.cells cs t)) (v:Value):BR W (W.setCell p v):=
 BR.of (by simp[World.setCell]) h fun k _ a=>Below.heap_setCell W p v k a
theorem BR.grown {A B:World}{row:Option Nat}(h:A.grownBy B row) (r:∀g,row=some g->∃cs t,A.heap[g]? = some (.cells cs t)):BR A B:=⟨h.size,fun k o b l=>by
 refine(h.block k (wD.1 b).1 fun e=>?_).trans b;obtain⟨cs,t,a⟩:=r k e.symm;rw[b] at a;injection a with a;subst a;exact l⟩
def RM {α:Type}(P:Program) (g:Nat) (lb:Array Value) (enc:α->Array Value) (R:List α->α->Prop) (S:List α->Prop) (d:World->Prop):Prop:=
 ∀(l:Nat) (J b:List α->World->Prop) (W:World),(∀p W,J p W->d W)->
  (∀p x c,J p c->R p x->YieldAt Fence.wide 0 P l (enc x) c fun e a=>(e = .returned (.bool true)/\J (p ++ [x]) a)\/(e = .returned (.bool false)/\b (p ++ [x]) a))->
  J [] W->
  CallsIn Fence.wide 0 P g (#[.func (.yield l) #[] #[]]++lb) W fun e a=>(∃v,e = .returned v)/\((∃s,S s/\J s a)\/∃p,b p a)
def RU {α:Type}(I:List α->World->Prop) (x:Code->List α->World->Prop) (xs:List α) (W:World):Exit->Act->World->Prop
 | .normal,_,W'=>BR W W'/\I xs W'
 | .ret,_,W'=>BR W W'/\x .ret xs W'
 | .exit id,_,W'=>BR W W'/\x (.exit id) xs W'
 | .goto t,_,W'=>BR W W'/\x (.goto t) xs W'
 | .panic _,_,_=>False
 | .outgrown,_,_=>False
theorem vF {P:Program}{α:Type}{g:Operand}{L:Array Tmp}{assign body:Code}{Q:Exit->Act->World->Prop}{a:Act}{w:World}
  {gf:Nat} {lb:Array Value} (hg:a.eval g = .func (.func gf) #[] lb) (eg:∀args w,(callFunc gf args).run P w = .ok (.enter gf args) w)
  {enc:α->Array Value} {R:List α->α->Prop} {S:List α->Prop} {O:World->Prop} (b':RM P gf lb enc R S O)
  (b8:∀x,(enc x).size=L.size)
  (I:List α->World->Prop) (B:Code->List α->World->Prop) (M:∀(r:List α) (W:World) (k:Nat) (o o':Obj),w.heap.size<=k->Lo o'->I r W->W.heap[k]? = some o->Lo o->I r (W.putObj k o')) (F:∀(c:Code) (r:List α) (W:World) (k:Nat) (o o':Obj),w.heap.size<=k->Lo o'->B c r W->W.heap[k]? = some o->Lo o->B c r (W.putObj k o')) (V:∀(W:World) (o:Obj),Lo o->I [] W->I [] (W.alloc o))
  (b9:∀r W,I r W->O W) (h0:I [] w) (T:α->Act)
  (b0:∀(l:Nat) (x:α) (W:World) (K:Act->World->Prop),K (T x) W->
   assign.wpIn (Fence.wide.inRound l) 0 P (Exit.then K (fun _ _ _=>False)) { tmps:=(L.zip (enc x)).foldl (fun t (p,v)=>t.setIfInBounds p v) a.tmps,defers:=[] } W)
  (b1:∀(l:Nat) (r:List α) (x:α) (W:World),I r W->R r x->body.wpIn (Fence.wide.inRound l) 0 P (RU I B (r ++ [x]) W) (T x) W)
  (b3:∀(d:Nat) (xs:List α) (W:World),S xs->I xs W->w.heap.size<=d->W.heap[d]? = some (.deferred (some []))->Q .normal { a with defers:={ target:=.collected d,args:=#[] }::a.defers } W)
  (c0:∀(d:Nat) (c:Code) (r:List α) (W:World),B c r W->w.heap.size<=d->W.heap[d]? = some (.deferred (some []))->c.wpIn Fence.wide 0 P Q { a with defers:={ target:=.collected d,args:=#[] }::a.defers } W) :
  (Code.rangeFunc g L assign body).wpIn Fence.wide 0 P Q a w:=by
 refine wpIn_rangeFunc fun U _=>?_;obtain⟨d,X⟩:=AF (w.heap.size);obtain⟨l,Y⟩:=AF (w.heap.size+1);obtain⟨f,n⟩:∃f:LoopState->Option Code->Loop,f=fun st pe=>{ state:=st,pending:=pe,fn:=U,tmps:=a.tmps,params:=L,assign:=assign,body:=body,defers:=d }:=⟨_,rfl⟩;obtain⟨A,G⟩:=AB ((w.alloc (.deferred (some []))).alloc (.loop (f .ready none)))
 have b5:A.heap[l]? = some (.loop (f .ready none)):=by
  rw[<-G,Y];have:=World.alloc_heap_new (w.alloc (.deferred (some []))) (.loop (f .ready none));rwa [World.size_alloc] at this
 have b2:A.heap[d]? = some (.deferred (some [])):=by
  rw[<-G,X];exact(Below.heap_alloc _ _ _ (by simp)).trans (World.alloc_heap_new w _)
 have J:d ≠ l:=by omega
 let a1:List α->World->Prop:=fun r W=>I r W/\W.heap[l]? = some (.loop (f .ready none))/\W.heap[d]? = some (.deferred (some []))
 let Jx:List α->World->Prop:=fun r W=>∃c,B c r W/\W.heap[l]? = some (.loop (f .done (some c)))/\W.heap[d]? = some (.deferred (some []))
 refine⟨l,[{ target:=.collected d,args:=#[] }],A,{ target:=.fn (.func gf) lb,args:=#[.func (.yield l) #[] #[]] },A,gf,#[.func (.yield l) #[] #[]]++lb,A,?_,?_,?_,?_,?_,?_⟩
 ·rw[<-G,n,Y,X];exact run_enterLoop_outer _ _ _ _ _
 ·simp only[resolve,hg];simp[go_sem]
 ·intro f' c6;trivial
 ·simp[invoke,go_sem,eg]
 ·intro h;simp[Fence.wide] at h
 refine(b' l a1 Jx A (fun r W h=>b9 r W h.1) ?_ ?_).mono ?_
 ·-- a round
  rintro r x W ⟨C,i,D⟩ a9;have b7:l < W.heap.size:=(wD.1 i).1;have Z:=run_yield (P:=P) (args:=enc x) i (by rw[n];exact b8 x);rw[n] at Z;refine⟨U,_,assign,body,Z,roundIn_of_wpIn trivial (b0 l x W _ ⟨_,run_beginRound i (by rw[n]),?_⟩)⟩;obtain⟨W2,H⟩:∃W2,W2=W.putObj l (.loop { f .ready none with state:=.busy }):=⟨_,rfl⟩;have g7:W2.heap[l]? = some (.loop { f .ready none with state:=.busy }):=by rw[H];exact World.putObj_heap_same b7
  have g8:W2.heap[d]? = some (.deferred (some [])):=by rw[H];exact(World.putObj_heap_other J).trans D
  have gI:I r W2:=by rw[H];exact M r W l _ _ (by omega) trivial C i trivial
  rw[<-H];refine wpIn_mono (b1 l r x W2 gI a9) ?_
  have E:∀(j:Option Code) (b:World),BR W2 b->
    (Instr.endRound l j).run P b = .ok (.bool j.isNone) (b.putObj l (.loop (f (if j.isNone then .ready else .done) j)))/\
    (b.putObj l (.loop (f (if j.isNone then .ready else .done) j))).heap[l]? = some (.loop (f (if j.isNone then .ready else .done) j))/\
    (b.putObj l (.loop (f (if j.isNone then .ready else .done) j))).heap[d]? = some (.deferred (some []))/\b.heap[l]? = some (.loop { f .ready none with state:=.busy }):=by
   intro j b k1;have N:=k1.objs l _ g7 trivial;have b6:l < b.heap.size:=(wD.1 N).1;have q:=run_endRound (P:=P) j N;exact⟨by rw[n] at q|-;exact q,World.putObj_heap_same b6,(World.putObj_heap_other J).trans (k1.objs d _ g8 trivial),N⟩
  rintro e a3 b m;cases e with
  | normal=>
   obtain⟨s,u,y,z⟩:=E none b m.1;exact⟨_,_,s,.inl ⟨rfl,M _ b l _ _ (by omega) trivial m.2 z trivial,u,y⟩⟩
  | ret=>
   obtain⟨s,u,y,z⟩:=E (some .ret) b m.1;exact⟨_,_,s,.inr ⟨rfl,_,F _ _ b l _ _ (by omega) trivial m.2 z trivial,u,y⟩⟩
  | exit id=>
   obtain⟨s,u,y,z⟩:=E (some (.exit id)) b m.1;exact⟨_,_,s,.inr ⟨rfl,_,F _ _ b l _ _ (by omega) trivial m.2 z trivial,u,y⟩⟩
  | goto t=>
   obtain⟨s,u,y,z⟩:=E (some (.goto t)) b m.1;exact⟨_,_,s,.inr ⟨rfl,_,F _ _ b l _ _ (by omega) trivial m.2 z trivial,u,y⟩⟩
  | panic ch=>exact m.elim
  | outgrown=>exact m.elim
 ·refine⟨?_,b5,b2⟩;have e1:=V w (.deferred (some [])) trivial h0;rw[<-G];exact V _ (.loop (f .ready none)) trivial e1
 ·-- behind the iterator
  rintro e W2 ⟨⟨v,rfl⟩,(⟨xs,hS,C,i,D⟩|⟨r,c,C,i,D⟩)⟩
  ·have q:=run_endLoop (P:=P) i (by rw[n];simp);rw[n] at q;exact⟨none,_,q,b3 d xs _ hS (M _ W2 l _ _ (by omega) trivial C i trivial) (by omega) ((World.putObj_heap_other J).trans D)⟩
  ·have q:=run_endLoop (P:=P) i (by rw[n];simp);rw[n] at q;exact⟨some c,_,q,c0 d c r _ (F c _ W2 l _ _ (by omega) trivial C i trivial) (by omega) ((World.putObj_heap_other J).trans D)⟩
theorem TY (n:Int) (h:1<=n) (a:n<=5):n=1\/n=2\/n=3\/n=4\/n=5:=by omega
def DI (n:Int):Int:=if n=1 then 1 else if n=2 then 3 else if n=3 then 7 else if n=4 then 15 else 31
theorem SY (n:Int):1<=DI n/\DI n<=31:=by unfold DI;split;omega;split;omega;split;omega;split;omega;omega
def CD (p:Int):Int:=if p=0 then 1 else if p=1 then 2 else if p=2 then 4 else if p=3 then 8 else if p=4 then 16 else 32
theorem kO (n:Int) (w:World) (h:1<=n) (a:n<=5):Calls Tryz.prog 278 #[.int .i64 n] w fun e w'=>e = .returned (.int .i64 (DI n))/\w=w':=by
 rcases TY n h a with rfl|rfl|rfl|rfl|rfl<;>
 ·go_enter Tryz.func278,Tryz.ntmps278
  go_wp2;go_ret;exact⟨rfl,rfl⟩
theorem TZ (n:Int) (w:World) (f:0<=n) (g:n<=5):Calls Tryz.prog 182 #[.int .i64 n] w fun e w'=>e = .returned (.int .i64 (CD n))/\w=w':=by
 go_enter Tryz.func182,Tryz.ntmps182
 go_wp2;go_loop [3,4] (fun o i=>∃k:Int,0<=k/\k<=n/\i = .int .i64 k/\o = .int .i64 (CD k)) (fun _ i=>(n - intOf i).toNat)
 case atStart=>exact⟨0,by omega,by omega,rfl,rfl⟩
 case round=>
  obtain⟨k,l,j,rfl,rfl⟩:=hrel;by_cases m:k < n
  ·have h:CD (k+1)=CD k * 2:=by
    have:k=0\/k=1\/k=2\/k=3\/k=4:=by omega
    rcases this with rfl|rfl|rfl|rfl|rfl<;>decide
   have b:1<=CD k/\CD k<=32:=(by unfold CD;split;omega;split;omega;split;omega;split;omega;split;omega;omega);obtain⟨c,d⟩:=b;obtain⟨t,a⟩:=AB (CD k);rw[a] at h c d|-;replace h:=qH h;clear a;go_wp2;go_round
   case rel=>exact⟨k+1,by omega,by omega,rfl,by rw[h.out]⟩
   case measure=>simp[intOf];omega
  ·obtain rfl:k=n:=(by omega);go_wp2;go_ret;exact⟨rfl,rfl⟩
theorem cE (n:Int) (w:World) (a:1<=n) (h:n<=5):Calls Tryz.prog 183 #[.int .i64 n] w fun e w'=>e = .returned (.int .i64 (DI n))/\w=w':=by
 have H:=qH (TZ n w (by omega) h);have e:DI n=CD n - 1:=by rcases TY n a h with rfl|rfl|rfl|rfl|rfl<;>decide
 have c:1<=CD n/\CD n<=32:=by rcases TY n a h with rfl|rfl|rfl|rfl|rfl<;>decide
 obtain⟨d,f⟩:=c;obtain⟨t,b⟩:=AB (CD n);rw[b] at e d f H;replace e:=qH e;clear b;go_enter Tryz.func183,Tryz.ntmps183
 go_wp2_with (go_at_call 182;refine H.out.mono ?_;rintro e w' ⟨rfl,rfl⟩)
 go_ret;exact⟨AM e.out.symm,rfl⟩
def AY (x p:Int):Bool:=x / CD p % 2 == 1
theorem MC (x p:Int) (w:World) (h:0<=x) (i:x<=1000000) (b:0<=p) (c:p<=5):Calls Tryz.prog 122 #[.int .i64 x,.int .i64 p] w fun e w'=>e = .returned (.bool (AY x p))/\w=w':=by
 have H:=qH (TZ p w b c);have d:1<=CD p/\CD p<=32:=by unfold CD;split;omega;split;omega;split;omega;split;omega;split;omega;omega
 obtain⟨f,g⟩:=d;have e:=qH (show AY x p=(x / CD p % 2 == 1) from rfl);obtain⟨t,a⟩:=AB (CD p);rw[a] at e f g H;have k:t ≠ 0:=by omega
 have q:0<=x / t:=Int.ediv_nonneg h (by omega);have j:x / t<=1000000:=Int.le_trans (Int.ediv_le_self _ h) i;clear a;go_enter Tryz.func122,Tryz.ntmps122
 go_wp2_with (go_at_call 182;refine H.out.mono ?_;rintro e w' ⟨rfl,rfl⟩)
 go_ret;exact⟨LC e.out.symm,rfl⟩
def FA (n:Int):Int:=if n < 1\/5 < n then 1 else 0
theorem qO (n:Int) (w:World):Calls Tryz.prog 277 #[.int .i64 n] w fun e w'=>e = .returned (.int .i64 (FA n))/\w=w':=by
 by_cases h:n < 1
 ·go_enter Tryz.func277,Tryz.ntmps277
  go_wp2;go_ret;exact⟨AM (by rw[FA,if_pos (.inl h)]),rfl⟩
 ·have b:decide (n < 1)=false:=by simpa using h
  by_cases a:5 < n
  ·go_enter Tryz.func277,Tryz.ntmps277
   go_wp2;go_ret;exact⟨AM (by rw[FA,if_pos (.inr a)]),rfl⟩
  ·have c:decide (5 < n)=false:=(by simpa using a);go_enter Tryz.func277,Tryz.ntmps277
   go_wp2;go_ret;exact⟨AM (by rw[FA,if_neg (by omega)]),rfl⟩
theorem oL (n:Int) (w:World):Calls Tryz.prog 279 #[.int .i64 n] w fun e w'=>e = .returned (.int .i64 (FA n))/\w=w':=by
 by_cases h:n < 1
 ·go_enter Tryz.func279,Tryz.ntmps279
  go_wp2;go_ret;exact⟨AM (by rw[FA,if_pos (.inl h)]),rfl⟩
 ·have b:decide (n < 1)=false:=by simpa using h
  by_cases a:5 < n
  ·go_enter Tryz.func279,Tryz.ntmps279
   go_wp2;go_ret;exact⟨AM (by rw[FA,if_pos (.inr a)]),rfl⟩
  ·have c:decide (5 < n)=false:=(by simpa using a);go_enter Tryz.func279,Tryz.ntmps279
   go_wp2;go_ret;exact⟨AM (by rw[FA,if_neg (by omega)]),rfl⟩
def EJ (n p x:Int):Int:=if n<=p then (if x=0 then 0 else 3) else if x < 0\/DI n < x then 2 else if AY x p then 0 else 3
def FF (n:Int):Int->List Int->Int
 | _,[]=>0
 | p,x::r=>if EJ n p x ≠ 0 then EJ n p x else FF n (p+1) r
def DG (n:Int) (hs:List Int):Int:=if n < 1\/5 < n then 2 else FF n 0 hs
def GO (n x:Int):Int:=if FA n ≠ 0 then 1 else if x < 0\/CD n<=x then 2 else 0
theorem eY:((List.range 32).all fun x=>(List.range 5).all fun p=>decide (bits .and .i64 ((x:Int) / CD p) 1=if AY x p then 1 else 0))=true:=by decide +kernel
theorem VR {x p:Int}(h:0<=x) (a:x<=31) (c:0<=p) (b:p<=4):bits .and .i64 (x / CD p) 1=if AY x p then 1 else 0:=by
 have:=List.all_eq_true.1 (List.all_eq_true.1 eY x.toNat (by rw[List.mem_range];omega)) p.toNat (by rw[List.mem_range];omega)
 have:=of_decide_eq_true this
 rwa [show((x.toNat:Nat):Int)=x by omega,show((p.toNat:Nat):Int)=p by omega] at this
theorem lZ (a b c d e:Value) (w:World):(Instr.index 112 (.agg #[a,b,c,d,e]) (.int .i64 0)).run Tryz.prog w = .ok a w:=by kernel_rfl
theorem mB (a b c d e:Value) (w:World):(Instr.index 112 (.agg #[a,b,c,d,e]) (.int .i64 1)).run Tryz.prog w = .ok b w:=by kernel_rfl
theorem mC (a b c d e:Value) (w:World):(Instr.index 112 (.agg #[a,b,c,d,e]) (.int .i64 2)).run Tryz.prog w = .ok c w:=by kernel_rfl
theorem mD (a b c d e:Value) (w:World):(Instr.index 112 (.agg #[a,b,c,d,e]) (.int .i64 3)).run Tryz.prog w = .ok d w:=by kernel_rfl
theorem mE (a b c d e:Value) (w:World):(Instr.index 112 (.agg #[a,b,c,d,e]) (.int .i64 4)).run Tryz.prog w = .ok e w:=by kernel_rfl
theorem ZP (a b c d e:Int) {k:Nat}(h:k < 5) (w:World):(Instr.index 112 (.agg #[.int .i64 a,.int .i64 b,.int .i64 c,.int .i64 d,.int .i64 e]) (.int .i64 (k:Int))).run Tryz.prog w = .ok (.int .i64 ([a,b,c,d,e].getD k 0)) w:=by
 rcases(show k=0\/k=1\/k=2\/k=3\/k=4 by omega) with rfl|rfl|rfl|rfl|rfl
 ·exact lZ _ _ _ _ _ w
 ·exact mB _ _ _ _ _ w
 ·exact mC _ _ _ _ _ w
 ·exact mD _ _ _ _ _ w
 ·exact mE _ _ _ _ _ w
theorem NA (a b c d e:Int) {k:Nat}(h:k < 5) : [a,b,c,d,e].drop k = [a,b,c,d,e].getD k 0::[a,b,c,d,e].drop (k+1):=by
 rcases(show k=0\/k=1\/k=2\/k=3\/k=4 by omega) with rfl|rfl|rfl|rfl|rfl<;>rfl
theorem RQ {x:Int}{k:Nat}(h:0<=x) (a:x<=31) (b:k < 5):bits .and .i64 (x / 2 ^ k) 1=if AY x (k:Int) then 1 else 0:=by
 have e:CD (k:Int)=2 ^ k:=by
  rcases(show k=0\/k=1\/k=2\/k=3\/k=4 by omega) with rfl|rfl|rfl|rfl|rfl<;>decide
 rw[<-e];exact VR h a (by omega) (by omega)
theorem ZB {n:Int}{p x:Int}{r:List Int}(h:EJ n p x=0):FF n p (x::r)=FF n (p+1) r:=by rw[FF,if_neg (fun k=>k h)]
theorem lG {n:Int}{p x:Int}{r:List Int}(h:EJ n p x ≠ 0):FF n p (x::r)=EJ n p x:=by rw[FF,if_pos h]
theorem KU {k:IntKind}{n p x E c:Int}{r:List Int}(g:FF n p (x::r)=E) (h:EJ n p x=c) (a:c ≠ 0):Ending.returned (.int k c) = .returned (.int k E):=AM (by rw[<-g,lG (by rw[h];exact a),h])
theorem YW {n p x:Int}(h:n<=p) (a:x=0):EJ n p x=0:=by rw[EJ,if_pos h,if_pos a]
theorem YX {n p x:Int}(h:n<=p) (a : ¬x=0):EJ n p x=3:=by rw[EJ,if_pos h,if_neg a]
theorem QD {n p x:Int}(h:p < n) (a:x < 0\/DI n < x):EJ n p x=2:=by rw[EJ,if_neg (by omega),if_pos a]
theorem YY {n p x:Int}(h:p < n) (a:0<=x/\x<=DI n) (b:AY x p=false):EJ n p x=3:=by rw[EJ,if_neg (by omega),if_neg (by omega),b];rfl
theorem YZ {n p x:Int}(h:p < n) (a:0<=x/\x<=DI n) (b:AY x p=true):EJ n p x=0:=by rw[EJ,if_neg (by omega),if_neg (by omega),b];rfl
theorem WG {w:World}{n:Int}(a b c d e:Int) {k:Nat}(h:k < 5):(w.alloc (.cells #[.int .i64 n,.int .i64 a,.int .i64 b,.int .i64 c,.int .i64 d,.int .i64 e] 146)).cell? ⟨w.heap.size,1+k,none⟩=some (.int .i64 ([a,b,c,d,e].getD k 0)):=by
 rw[cell_of_row _ w.heap.size (1+k) _ 146 (0,0) (wE w _)];rcases(show k=0\/k=1\/k=2\/k=3\/k=4 by omega) with rfl|rfl|rfl|rfl|rfl<;>rfl
theorem lB (n c d f g i:Int) (w:World):Calls Tryz.prog 267 #[.agg #[.int .i64 n,.int .i64 c,.int .i64 d,.int .i64 f,.int .i64 g,.int .i64 i]] w fun e w'=>e = .returned (.int .i64 (DG n [c,d,f,g,i]))/\Below w.heap.size w w':=by
 by_cases l:n < 1\/5 < n
 ·have m:=qH (show DG n [c,d,f,g,i]=2 by rw[DG,if_pos l]);by_cases C:n < 1
  ·go_enter Tryz.func267, Tryz.ntmps267
   go_wp2;go_ret;exact⟨AM m.out.symm,(wB _ _).alloc (wC _) _⟩
  ·have X:decide (n < 1)=false:=(by simpa using C);have Q:5 < n:=(by omega);go_enter Tryz.func267, Tryz.ntmps267
   go_wp2;go_ret;exact⟨AM m.out.symm,(wB _ _).alloc (wC _) _⟩
 ·have C:decide (n < 1)=false:=vY (by omega);have Q:decide (5 < n)=false:=vY (by omega);obtain⟨E,m⟩:=AB (DG n [c,d,f,g,i]);have A:=qH (show FF n 0 [c,d,f,g,i]=E by rw[<-m,DG,if_neg l]);rw[m];have L:1<=n:=by omega
  have M:n<=5:=by omega
  have o:=fun W=>kO n W L M;obtain⟨J,K⟩:=SY n;obtain⟨F,q⟩:=AB (DI n);rw[q] at J K;simp only[q] at o;replace o:=qH o;replace q:=qH q;clear l m;go_enter Tryz.func267, Tryz.ntmps267
  go_wp2;have s:=(wB w.heap.size w).alloc (wC _) (.cells #[.int .i64 n,.int .i64 c,.int .i64 d,.int .i64 f,.int .i64 g,.int .i64 i] 146);go_loop [15] (fun z=>∃k:Nat,z = .int .i64 (k:Int)/\k<=5/\Hid (FF n (k:Int) ([c,d,f,g,i].drop k)=E)) (fun z=>5 - (intOf z).toNat)
  case atStart=>exact⟨0,rfl,by omega,A⟩
  case round=>
   clear A;obtain⟨k,rfl,T,j⟩:=hrel;by_cases t:k < 5
   ·have V:(k:Int) < 5:=(by omega);have U:(0:Int)<=(k:Int):=Int.natCast_nonneg _;have P:=ZP c d f g i t;have N:=WG (w:=w) (n:=n) c d f g i t;have v:=j.out;rw[NA c d f g i t] at v;obtain⟨a,y⟩:=AB ([c,d,f,g,i].getD k 0);rw[y] at N v;simp only[y] at P;replace j:=qH v;have D:Hid (EJ n (k:Int) a=0->Hid (FF n ((k+1:Nat):Int) ([c,d,f,g,i].drop (k+1))=E)):=fun h=>by show _=_;rw[<-j.out,ZB h];rfl
    clear v y;by_cases p:n<=(k:Int)
    ·have r:=qH p;have R:decide (n<=(k:Int))=true:=vZ p;by_cases b:a=0
     ·have S:(a != 0)=false:=(by simp[b]);have l:=D.out (YW p b);subst b;clear p;go_wp2;go_round
      case rel=>exact⟨k+1,by go_num,t,l⟩
      case measure=>simp[intOf];omega
     ·have S:(a != 0)=true:=(by simpa using b);replace b:=qH b;clear p;go_wp2;go_ret;exact⟨KU j.out (YX r.out b.out) (by decide),s⟩
    ·have r:=qH (show(k:Int) < n by omega);have R:decide (n<=(k:Int))=false:=vY p;clear p;by_cases G:a < 0
     ·have b:=qH (show a < 0\/DI n < a from .inl G);go_wp2;go_ret;exact⟨KU j.out (QD r.out b.out) (by decide),s⟩
     ·have Y:decide (a < 0)=false:=vY G;by_cases H:F < a
      ·have b:=qH (show a < 0\/DI n < a from .inr (by rw[q.out];exact H));go_wp2_with (first|(go_at_call 278;refine(o.out _).mono ?_;rintro e I ⟨rfl,rfl⟩))
       go_ret;exact⟨KU j.out (QD r.out b.out) (by decide),s⟩
      ·have Z:decide (F < a)=false:=vY H;have b:=qH (show 0<=a/\a<=DI n by rw[q.out];omega);have B:=RQ (x:=a) (by omega) (by omega) t;cases u:AY a (k:Int)
       ·have O:=qH (YY r.out b.out u);rw[u,if_neg (by decide)] at B;go_wp2_with (first|(go_at_call 278;refine(o.out _).mono ?_;rintro e I ⟨rfl,rfl⟩))
        go_ret;exact⟨KU j.out O.out (by decide),s⟩
       ·have l:=D.out (YZ r.out b.out u);rw[u,if_pos rfl] at B;go_wp2_with (first|(go_at_call 278;refine(o.out _).mono ?_;rintro e I ⟨rfl,rfl⟩))
        go_round
        case rel=>exact⟨k+1,by go_num,t,l⟩
        case measure=>simp[intOf];omega
   ·obtain rfl:k=5:=(by omega);go_wp2;go_ret;exact⟨AM (by rw[<-j.out];rfl),s⟩
theorem pY (n c d f g i:Int) (w:World):Calls Tryz.prog 264 #[.agg #[.int .i64 n,.int .i64 c,.int .i64 d,.int .i64 f,.int .i64 g,.int .i64 i]] w fun e w'=>e = .returned (.int .i64 (DG n [c,d,f,g,i]))/\Below w.heap.size w w':=by
 by_cases l:n < 1\/5 < n
 ·have m:=qH (show DG n [c,d,f,g,i]=2 by rw[DG,if_pos l]);by_cases C:n < 1
  ·go_enter Tryz.func264, Tryz.ntmps264
   go_wp2;go_ret;exact⟨AM m.out.symm,(wB _ _).alloc (wC _) _⟩
  ·have Y:decide (n < 1)=false:=(by simpa using C);have R:5 < n:=(by omega);go_enter Tryz.func264, Tryz.ntmps264
   go_wp2;go_ret;exact⟨AM m.out.symm,(wB _ _).alloc (wC _) _⟩
 ·have C:decide (n < 1)=false:=vY (by omega);have R:decide (5 < n)=false:=vY (by omega);obtain⟨E,m⟩:=AB (DG n [c,d,f,g,i]);have A:=qH (show FF n 0 [c,d,f,g,i]=E by rw[<-m,DG,if_neg l]);rw[m];have M:1<=n:=by omega
  have N:n<=5:=by omega
  have o:=fun W=>cE n W M N;obtain⟨K,L⟩:=SY n;obtain⟨F,q⟩:=AB (DI n);rw[q] at K L;simp only[q] at o;replace o:=qH o;replace q:=qH q;clear l m;go_enter Tryz.func264, Tryz.ntmps264
  go_wp2;have s:=(wB w.heap.size w).alloc (wC _) (.cells #[.int .i64 n,.int .i64 c,.int .i64 d,.int .i64 f,.int .i64 g,.int .i64 i] 146);go_loop [3] (fun z=>∃k:Nat,z = .int .i64 (k:Int)/\k<=5/\Hid (FF n (k:Int) ([c,d,f,g,i].drop k)=E)) (fun z=>5 - (intOf z).toNat)
  case atStart=>exact⟨0,rfl,by omega,A⟩
  case round=>
   clear A;obtain⟨k,rfl,U,j⟩:=hrel;by_cases t:k < 5
   ·have X:(k:Int) < 5:=(by omega);have V:(0:Int)<=(k:Int):=Int.natCast_nonneg _;have Q:=ZP c d f g i t;have O:=WG (w:=w) (n:=n) c d f g i t;have v:=j.out;rw[NA c d f g i t] at v;obtain⟨a,y⟩:=AB ([c,d,f,g,i].getD k 0);rw[y] at O v;simp only[y] at Q;replace j:=qH v;have D:Hid (EJ n (k:Int) a=0->Hid (FF n ((k+1:Nat):Int) ([c,d,f,g,i].drop (k+1))=E)):=fun h=>by show _=_;rw[<-j.out,ZB h];rfl
    clear v y;by_cases p:n<=(k:Int)
    ·have r:=qH p;have S:decide (n<=(k:Int))=true:=vZ p;by_cases b:a=0
     ·have T:(a != 0)=false:=(by simp[b]);have l:=D.out (YW p b);subst b;clear p;go_wp2;go_round
      case rel=>exact⟨k+1,by go_num,t,l⟩
      case measure=>simp[intOf];omega
     ·have T:(a != 0)=true:=(by simpa using b);replace b:=qH b;clear p;go_wp2;go_ret;exact⟨KU j.out (YX r.out b.out) (by decide),s⟩
    ·have r:=qH (show(k:Int) < n by omega);have S:decide (n<=(k:Int))=false:=vY p;clear p;by_cases G:a < 0
     ·have b:=qH (show a < 0\/DI n < a from .inl G);go_wp2;go_ret;exact⟨KU j.out (QD r.out b.out) (by decide),s⟩
     ·have Z:decide (a < 0)=false:=vY G;by_cases H:F < a
      ·have b:=qH (show a < 0\/DI n < a from .inr (by rw[q.out];exact H));go_wp2_with (first|(go_at_call 183;refine(o.out _).mono ?_;rintro e I ⟨rfl,rfl⟩)|(go_at_call 122;refine(MC _ _ _ (by omega) (by omega) (by omega) (by omega)).mono ?_;rintro e J ⟨rfl,rfl⟩;rw[u]))
       go_ret;exact⟨KU j.out (QD r.out b.out) (by decide),s⟩
      ·have a0:decide (F < a)=false:=vY H;have b:=qH (show 0<=a/\a<=DI n by rw[q.out];omega);have B:=RQ (x:=a) (by omega) (by omega) t;cases u:AY a (k:Int)
       ·have P:=qH (YY r.out b.out u);clear B;go_wp2_with (first|(go_at_call 183;refine(o.out _).mono ?_;rintro e I ⟨rfl,rfl⟩)|(go_at_call 122;refine(MC _ _ _ (by omega) (by omega) (by omega) (by omega)).mono ?_;rintro e J ⟨rfl,rfl⟩;rw[u]))
        go_ret;exact⟨KU j.out P.out (by decide),s⟩
       ·have l:=D.out (YZ r.out b.out u);clear B;go_wp2_with (first|(go_at_call 183;refine(o.out _).mono ?_;rintro e I ⟨rfl,rfl⟩)|(go_at_call 122;refine(MC _ _ _ (by omega) (by omega) (by omega) (by omega)).mono ?_;rintro e J ⟨rfl,rfl⟩;rw[u]))
        go_round
        case rel=>exact⟨k+1,by go_num,t,l⟩
        case measure=>simp[intOf];omega
   ·obtain rfl:k=5:=(by omega);go_wp2;go_ret;exact⟨AM (by rw[<-j.out];rfl),s⟩
def AU (a b:Int):Int:=if a < b then -1 else if b < a then 1 else 0
def AH:List Int->List Int->Int
 | [],[]=>0
 | [],_::_=>-1
 | _::_,[]=>1
 | a::xs,b::ys=>if AU a b=0 then AH xs ys else AU a b
def BI (x y:List Int):Bool:=decide (x=y)
theorem FN {x y:List Int}:BI x y=true↔x=y:=by simp[BI]
theorem FL {x y:List Int}:BI x y=false↔x ≠ y:=by simp[BI]
theorem XV (d:Nat) (a b c e f g h i j k:Int) (w:World):(Op.equalIn (d+2) 112 (.agg #[.int .i64 a,.int .i64 b,.int .i64 c,.int .i64 e,.int .i64 f]) (.agg #[.int .i64 g,.int .i64 h,.int .i64 i,.int .i64 j,.int .i64 k])).run Tryz.prog w = .ok (BI [a,b,c,e,f] [g,h,i,j,k]) w:=by
 have u3:=Tryz.underlying3;have q:=Tryz.isAgg3;have z:=Tryz.sizeOf3;rw[show d+2=(d+1)+1 from rfl,Op.equalIn];simp only[Sem.run_bind,run_underlying Tryz.underlying112,Result.andThen_ok];simp only[Std.Legacy.Range.forIn_eq_forIn_range',Std.Legacy.Range.size,Nat.sub_zero,Nat.add_sub_cancel,Nat.div_one,List.range'_succ,List.range'_zero,List.forIn_cons,List.forIn_nil];go_simp;by_cases l:a=g<;>by_cases m:b=h<;>by_cases n:c=i<;>by_cases o:e=j<;>by_cases p:f=k<;>simp[BI,l,m,n,o,p]
theorem XX (d:Nat) (n a b c e f l g h i j k:Int) (w:World):(Op.equalIn (d+3) 146 (.agg #[.int .i64 n,.int .i64 a,.int .i64 b,.int .i64 c,.int .i64 e,.int .i64 f]) (.agg #[.int .i64 l,.int .i64 g,.int .i64 h,.int .i64 i,.int .i64 j,.int .i64 k])).run Tryz.prog w = .ok (BI [n,a,b,c,e,f] [l,g,h,i,j,k]) w:=by
 have u3:=Tryz.underlying3;have m:=Tryz.isAgg3;have z:=Tryz.sizeOf3;have o:=Tryz.isAgg112;have s:=Tryz.sizeOf112;have S : Tryz.prog.underlying 146=some (.struct (Tryz.prog.fieldsOf 146)):=by kernel_rfl
 have p : Tryz.prog.stoodInHeld 146=false:=by kernel_rfl
 have A:=XV d a b c e f g h i j k;rw[show d+3=(d+2)+1 from rfl,run_equalIn_agg w (d+2) 146 _ _ S p];simp only[Program.fieldsOf,Tryz.underlying146];go_simp;by_cases q:n=l<;>by_cases r : [a,b,c,e,f] = [g,h,i,j,k]<;>simp_all [BI]
theorem XY (d:Nat) (n a b c e f g m h i j k l o:Int) (w:World):(Op.equalIn (d+4) 148 (.agg #[.int .i64 n,.int .i64 a,.int .i64 b,.int .i64 c,.int .i64 e,.int .i64 f,.int .i64 g]) (.agg #[.int .i64 m,.int .i64 h,.int .i64 i,.int .i64 j,.int .i64 k,.int .i64 l,.int .i64 o])).run Tryz.prog w = .ok (BI [n,a,b,c,e,f,g] [m,h,i,j,k,l,o]) w:=by
 have u3:=Tryz.underlying3;have q:=Tryz.isAgg3;have z:=Tryz.sizeOf3;have r:=Tryz.isAgg146;have u:=Tryz.sizeOf146;have S : Tryz.prog.underlying 148=some (.struct (Tryz.prog.fieldsOf 148)):=by kernel_rfl
 have p : Tryz.prog.stoodInHeld 148=false:=by kernel_rfl
 have A:=XX d n a b c e f m h i j k l;rw[show d+4=(d+3)+1 from rfl,run_equalIn_agg w (d+3) 148 _ _ S p];simp only[Program.fieldsOf,Tryz.underlying148];go_simp;by_cases s:g=o<;>by_cases t : [n,a,b,c,e,f] = [m,h,i,j,k,l]<;>simp_all [BI]
theorem iX (d:Nat) (n a b c e f g t o h i j k l m p:Int) (w:World):(Op.equalIn (d+5) 178 (.agg #[.int .i64 n,.int .i64 a,.int .i64 b,.int .i64 c,.int .i64 e,.int .i64 f,.int .i64 g,.int .i64 t]) (.agg #[.int .i64 o,.int .i64 h,.int .i64 i,.int .i64 j,.int .i64 k,.int .i64 l,.int .i64 m,.int .i64 p])).run Tryz.prog w = .ok (BI [n,a,b,c,e,f,g,t] [o,h,i,j,k,l,m,p]) w:=by
 have u3:=Tryz.underlying3;have r:=Tryz.isAgg3;have z:=Tryz.sizeOf3;have s:=Tryz.isAgg148;have x:=Tryz.sizeOf148;have S : Tryz.prog.underlying 178=some (.struct (Tryz.prog.fieldsOf 178)):=by kernel_rfl
 have q : Tryz.prog.stoodInHeld 178=false:=by kernel_rfl
 have A:=XY d n a b c e f g o h i j k l m;rw[show d+5=(d+4)+1 from rfl,run_equalIn_agg w (d+4) 178 _ _ S q];simp only[Program.fieldsOf,Tryz.underlying178];go_simp;by_cases u:t=p<;>by_cases v : [n,a,b,c,e,f,g] = [o,h,i,j,k,l,m]<;>simp_all [BI]
@[go_sem high] theorem vR (n a b c e f k d g h i j:Int) (w:World):(Op.equalIn 10000 146 (.agg #[.int .i64 n,.int .i64 a,.int .i64 b,.int .i64 c,.int .i64 e,.int .i64 f]) (.agg #[.int .i64 k,.int .i64 d,.int .i64 g,.int .i64 h,.int .i64 i,.int .i64 j])).run Tryz.prog w = .ok (BI [n,a,b,c,e,f] [k,d,g,h,i,j]) w:=XX 9997 n a b c e f k d g h i j w
@[go_sem high] theorem vT (n a b c e f g m d h i j k l:Int) (w:World):(Op.equalIn 10000 148 (.agg #[.int .i64 n,.int .i64 a,.int .i64 b,.int .i64 c,.int .i64 e,.int .i64 f,.int .i64 g]) (.agg #[.int .i64 m,.int .i64 d,.int .i64 h,.int .i64 i,.int .i64 j,.int .i64 k,.int .i64 l])).run Tryz.prog w = .ok (BI [n,a,b,c,e,f,g] [m,d,h,i,j,k,l]) w:=XY 9996 n a b c e f g m d h i j k l w
@[go_sem high] theorem vS (n a b c e f g t m d h i j k l o:Int) (w:World):(Op.equalIn 10000 178 (.agg #[.int .i64 n,.int .i64 a,.int .i64 b,.int .i64 c,.int .i64 e,.int .i64 f,.int .i64 g,.int .i64 t]) (.agg #[.int .i64 m,.int .i64 d,.int .i64 h,.int .i64 i,.int .i64 j,.int .i64 k,.int .i64 l,.int .i64 o])).run Tryz.prog w = .ok (BI [n,a,b,c,e,f,g,t] [m,d,h,i,j,k,l,o]) w:=iX 9995 n a b c e f g t m d h i j k l o w
end Go.Proofs.YtcnedkkcgdkioaaGreat
