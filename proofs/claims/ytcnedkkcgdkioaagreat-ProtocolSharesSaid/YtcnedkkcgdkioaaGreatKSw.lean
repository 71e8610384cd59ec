/- Texts of this claim, put together: NH PA OA OB OC. -/
import Derived.Test.YtcnedkkcgdkioaaGreatKSv

set_option maxRecDepth 100000
set_option maxHeartbeats 12800000
namespace Go.Proofs.YtcnedkkcgdkioaaGreat
open Go.RowKit
theorem results_tab {fn:Func}(h:fn.results = #[.cell 4 32,.tmp 5]) (tmps:Array Value) (w:World) (g1:Nat) {u0 u1 x:Value}(hp1:tmps.getD 4 undef = .pointer (some ⟨g1,0,none⟩)) (hp2:tmps.getD 5 undef=x) (hc1:w.heap[g1]? = some (.cells #[u0,u1] 32)) :
  (results fn tmps).run Tryz.prog w = .ok (.tuple #[.agg #[u0,u1],x]) w:=by
 have hp1':tmps[4]?.getD undef = .pointer (some ⟨g1,0,none⟩):=by simpa using hp1
 have hp2':tmps[5]?.getD undef=x:=by simpa using hp2
 obtain⟨z0,z1⟩:=boxL2 hc1;have a1:=Tryz.isAgg32;have s1:=Tryz.sizeOf32;simp only[results,h];simp[Sem.run_bind,Result.andThen,hp1',hp2',asAddr,loadVar]
 go_simp
theorem refPut {w:World}{tn:Int}{va:Option Addr}{vc:Nat}{vs:Jb}{x:List Int}(ho:OwX 114 8 EI w 0 (.slice va vs.length vc) vs.length vs) (hn:vs.length<=100000) (hx:x.length=8) :
  Calls Tryz.prog 188 #[.agg #[.int .i64 tn,.slice va vs.length vc],vwV x] w fun e w'=>∃va' vc',e = .returned (.tuple #[.agg #[.int .i64 tn,.slice va' (putV vs x).length vc'],.int .i64 (ixOf (putV vs x) x:Nat)])/\OwX 114 8 EI w' 0 (.slice va' (putV vs x).length vc') (putV vs x).length (putV vs x)/\Below w.heap.size w w':=by
 obtain⟨xa,xb,xc,xd,xe,xf,xg,xh,hxe⟩:=eight hx;obtain⟨W1,hW1⟩:=exF (((w.alloc (.cells #[.int .i64 tn,.slice va vs.length vc] 32)).alloc (.cells #[.int .i64 xa,.int .i64 xb,.int .i64 xc,.int .i64 xd,.int .i64 xe,.int .i64 xf,.int .i64 xg,.int .i64 xh] 114)).alloc (.cells #[.int .i64 0,.slice none 0 0] 32));have hs1:W1.heap.size=w.heap.size+3:=by rw[hW1];simp
 have hb1:Below w.heap.size w W1:=by rw[hW1];exact(((Below.refl _ w).alloc (Nat.le_refl _) _).alloc (by simp) _).alloc (by simp;omega) _
 have kT:W1.heap[w.heap.size]? = some (.cells #[.int .i64 tn,.slice va vs.length vc] 32):=by
  rw[hW1];exact(Below.heap_alloc _ _ _ (by simp;omega)).trans ((Below.heap_alloc _ _ _ (by simp)).trans (heap_alloc_new w _))
 have kV:W1.heap[w.heap.size+1]? = some (.cells #[.int .i64 xa,.int .i64 xb,.int .i64 xc,.int .i64 xd,.int .i64 xe,.int .i64 xf,.int .i64 xg,.int .i64 xh] 114):=by
  rw[hW1];have:=heap_alloc_new (w.alloc (.cells #[.int .i64 tn,.slice va vs.length vc] 32)) (.cells #[.int .i64 xa,.int .i64 xb,.int .i64 xc,.int .i64 xd,.int .i64 xe,.int .i64 xf,.int .i64 xg,.int .i64 xh] 114)
  rw[World.size_alloc] at this;exact(Below.heap_alloc _ _ _ (by simp)).trans this
 have kR:W1.heap[w.heap.size+1+1]? = some (.cells #[.int .i64 0,.slice none 0 0] 32):=by
  rw[hW1];have:=heap_alloc_new ((w.alloc (.cells #[.int .i64 tn,.slice va vs.length vc] 32)).alloc (.cells #[.int .i64 xa,.int .i64 xb,.int .i64 xc,.int .i64 xd,.int .i64 xe,.int .i64 xf,.int .i64 xg,.int .i64 xh] 114)) (.cells #[.int .i64 0,.slice none 0 0] 32)
  rwa [World.size_alloc,World.size_alloc] at this
 have HI:=qH (fun W (hb:Below w.heap.size w W)=>refIndexV (tn:=tn) (x:=x) ((ho.keep (EI.stab _) hb).ks (by omega)) hx);have hvx:vwV x = .agg #[.int .i64 xa,.int .i64 xb,.int .i64 xc,.int .i64 xd,.int .i64 xe,.int .i64 xf,.int .i64 xg,.int .i64 xh]:=by rw[hxe];rfl
 rw[hvx] at HI|-;have HK:=qH (fun W (hb:Below W1.heap.size W1 W)=>And.intro (And.intro (cell_kept hb (boxL2 kT).1) (cell_kept hb (boxL2 kT).2)) (keptO hb kV));obtain⟨p0,p1⟩:=boxL2 kT;obtain⟨q0,q1,q2,q3,q4,q5,q6,q7⟩:=box8' kV;rw[hW1] at p0 p1 q0 q1 q2 q3 q4 q5 q6 q7;replace kR:=qH kR;have kTh:=qH kT;replace ho:=qH ho;replace hxe:=qH hxe;clear kT kV hvx;by_cases hm:x∈vs
 ·have hpv:putV vs x=vs:=by unfold putV;rw[if_pos hm]
  rw[hpv];simp only[if_pos hm] at HI;obtain⟨I,hI⟩:=exE (ixOf vs x);rw[hI];simp only[hI] at HI;clear hm hpv hI;have hI0:(0:Int)<=(I:Int):=Int.natCast_nonneg _;go_enter Tryz.func188, Tryz.ntmps188
  go_wp2_with fail
  rw[<-hW1];replace hW1:=qH hW1;refine(HI.out W1 hb1).mono ?_;rintro e w2 ⟨rfl,hb2⟩;clear p0 p1 q0 q1 q2 q3 q4 q5 q6 q7;obtain⟨⟨p0,p1⟩,-⟩:=HK.out w2 hb2;have kR2:=keptO hb2 kR.out;obtain⟨z0,z1⟩:=boxL2 kR2;have fz:=row_free kR2;have hb02:=btt hb1 hb2;have m0:=heap_setCell_same w2 (w.heap.size+1+1) 0 _ _ (.int .i64 tn) kR2;have m1:=heap_setCell_same _ (w.heap.size+1+1) 1 _ _ (.slice va vs.length vc) m0;have hbe:=(hb02.setCell (p:=⟨w.heap.size+1+1,0,none⟩) (by show w.heap.size<=w.heap.size+1+1;omega) (.int .i64 tn)).setCell (p:=⟨w.heap.size+1+1,1,none⟩) (by show w.heap.size<=w.heap.size+1+1;omega) (.slice va vs.length vc);replace m1:=qH m1;clear m0 kR2;go_wp2_with fail
  exact⟨rfl,_,results_tab rfl _ _ _ rfl rfl m1.out,_,_,rfl,ho.out.keep (EI.stab _) hbe,hbe⟩
 ·have hpv:putV vs x=vs ++ [x]:=by unfold putV;rw[if_neg hm]
  rw[hpv,ixOf_snoc hm];simp only[if_neg hm] at HI;clear hpv;go_enter Tryz.func188, Tryz.ntmps188
  go_wp2_with fail
  rw[<-hW1];replace hW1:=qH hW1;refine(HI.out W1 hb1).mono ?_;rintro e w2 ⟨rfl,hb2⟩;clear p0 p1 q0 q1 q2 q3 q4 q5 q6 q7;obtain⟨⟨p0,p1⟩,kV2⟩:=HK.out w2 hb2;have kR2:=keptO hb2 kR.out;have hb02:=btt hb1 hb2;obtain⟨W3,hW3⟩:=exF (w2.alloc (.cells #[.int .i64 tn,.slice none 0 0] 32));have hb3:Below w2.heap.size w2 W3:=by rw[hW3];exact(Below.refl _ _).alloc (Nat.le_refl _) _
  have k3:W3.heap[w2.heap.size]? = some (.cells #[.int .i64 tn,.slice none 0 0] 32):=by rw[hW3];exact heap_alloc_new _ _
  have hb03:=btt hb02 hb3;obtain⟨-,kV3⟩:=HK.out W3 (btt hb2 hb3);obtain⟨q0,q1,q2,q3,q4,q5,q6,q7⟩:=box8' kV3;have c2:=cell_kept hb3 p1;have kR3:=keptO hb3 kR2;go_upto_region 5 with fail
  rw[<-hW3];replace hW3:=qH hW3;have hws:=hb2.size;have ho3:=ho.out.keep (EI.stab _) hb03;refine regPut5 (B:=w2.heap.size) (tn:=tn) c2 ho3 (by omega) q0 q1 q2 q3 q4 q5 q6 q7 k3 (by omega) (by omega) (Nat.le_refl _) ?_;rintro y4 y6 y7 y9 W4 ⟨G1,-,-,-,G5,-,G7⟩ - - - -;obtain⟨⟨a9,c9,rfl⟩,hO9⟩:=G5 rfl;have h74:=G7 rfl;have kT4:=(G1.block w.heap.size (by omega)).trans (keptO hb3 (keptO hb2 kTh.out));have kR4:=(G1.block (w.heap.size+1+1) (by omega)).trans kR3;have hb04:Below w.heap.size w W4:=hb03.trans (G1.mono (by omega));go_wp2;refine regPut6 kT4 h74 kR4 (by omega) (by omega) ?_;rintro y5 W5 ⟨-,-,H3,H4,H5⟩ -;have hOf:=(hO9.other (EI.stab _) (by decide) H4).base (Nat.zero_le _);rw[<-hxe.out] at hOf;have hbe:=H5 _ _ (by omega) hb04;have m1:=H3 rfl;go_wp2;have hl:(vs ++ [x]).length=vs.length+1:=by rw[List.length_append];rfl
  refine⟨rfl,_,results_tab rfl _ _ _ rfl rfl m1,a9,c9,?_,?_,hbe⟩
  ·first|rfl|(rw[hl];rfl)
  ·first|exact hOf|(rw[hl];exact hOf)
def SeqA {α:Type}(P:Program) (g:Nat) (lb:Array Value) (enc:α->Array Value) (R:List α->α->World->Prop) (S:List α->Prop) (Rd:World->Prop):Prop:=
 ∀(l:Nat) (J Jx:List α->World->Prop) (W:World),(∀pre W,J pre W->Rd W)->(∀pre W W',J pre W->Below W.heap.size W W'->J pre W')->
  (∀pre x W1,J pre W1->R pre x W1->YieldAt Fence.wide 0 P l (enc x) W1 fun e W'=>(e = .returned (.bool true)/\J (pre ++ [x]) W')\/(e = .returned (.bool false)/\Jx (pre ++ [x]) W'))->
  J [] W->
  CallsIn Fence.wide 0 P g (#[.func (.yield l) #[] #[]]++lb) W fun e W'=>(∃v,e = .returned v)/\((∃xs,S xs/\J xs W')\/∃pre,Jx pre W')
theorem wpIn_rfA {P:Program}{α:Type}{g:Operand}{ps:Array Tmp}{assign body:Code}{Q:Exit->Act->World->Prop}{a:Act}{w:World}
  {gf:Nat} {lb:Array Value} (hg:a.eval g = .func (.func gf) #[] lb) (eg:∀args w,(callFunc gf args).run P w = .ok (.enter gf args) w)
  {enc:α->Array Value} {R:List α->α->World->Prop} {S:List α->Prop} {Rd:World->Prop} (hseq:SeqA P gf lb enc R S Rd)
  (hps:∀x,(enc x).size=ps.size)
  (I:List α->World->Prop) (Ix:Code->List α->World->Prop) (hI:∀(pre:List α) (W:World) (k:Nat) (o o':Obj),w.heap.size<=k->Lo o'->I pre W->W.heap[k]? = some o->Lo o->I pre (W.putObj k o')) (hIx:∀(c:Code) (pre:List α) (W:World) (k:Nat) (o o':Obj),w.heap.size<=k->Lo o'->Ix c pre W->W.heap[k]? = some o->Lo o->Ix c pre (W.putObj k o')) (hIb:∀(pre:List α) (W W':World),I pre W->Below W.heap.size W W'->I pre W') (hR:∀(pre:List α) (x:α) (W:World) (k:Nat) (o o':Obj),w.heap.size<=k->Lo o'->R pre x W->W.heap[k]? = some o->Lo o->R pre x (W.putObj k o'))
  (hrd:∀pre W,I pre W->Rd W) (h0:I [] w) (t:α->Array Value->Array Value)
  (hassign:∀(l:Nat) (x:α) (W:World) (K:Act->World->Prop),K { tmps:=t x a.tmps,defers:=[] } W->
   assign.wpIn (Fence.wide.inRound l) 0 P (Exit.then K (fun _ _ _=>False)) { tmps:=(ps.zip (enc x)).foldl (fun t (p,v)=>t.setIfInBounds p v) a.tmps,defers:=[] } W)
  (hbody:∀(l:Nat) (pre:List α) (x:α) (W:World),I pre W->R pre x W->body.wpIn (Fence.wide.inRound l) 0 P (bodyN I Ix (pre ++ [x]) W) { tmps:=t x a.tmps,defers:=[] } W)
  (hdone:∀(d:Nat) (xs:List α) (W:World),S xs->I xs W->w.heap.size<=d->W.heap[d]? = some (.deferred (some []))->Q .normal { a with defers:={ target:=.collected d,args:=#[] }::a.defers } W)
  (hstop:∀(d:Nat) (c:Code) (pre:List α) (W:World),Ix c pre W->w.heap.size<=d->W.heap[d]? = some (.deferred (some []))->c.wpIn Fence.wide 0 P Q { a with defers:={ target:=.collected d,args:=#[] }::a.defers } W) :
  (Code.rangeFunc g ps assign body).wpIn Fence.wide 0 P Q a w:=by
 refine wpIn_rangeFunc fun fn _=>?_;obtain⟨d,hd⟩:=exF (w.heap.size);obtain⟨l,hl⟩:=exF (w.heap.size+1);obtain⟨rec,hrec⟩:∃rec:LoopState->Option Code->Loop,rec=fun st pe=>{ state:=st,pending:=pe,fn:=fn,tmps:=a.tmps,params:=ps,assign:=assign,body:=body,defers:=d }:=⟨_,rfl⟩;obtain⟨W1,hW1⟩:=exE ((w.alloc (.deferred (some []))).alloc (.loop (rec .ready none)))
 have hl1:W1.heap[l]? = some (.loop (rec .ready none)):=by
  rw[<-hW1,hl];have:=World.alloc_heap_new (w.alloc (.deferred (some []))) (.loop (rec .ready none));rwa [World.size_alloc] at this
 have hd1:W1.heap[d]? = some (.deferred (some [])):=by
  rw[<-hW1,hd];exact(Below.heap_alloc _ _ _ (by simp)).trans (World.alloc_heap_new w _)
 have hdl:d ≠ l:=by omega
 let J:List α->World->Prop:=fun pre W=>I pre W/\W.heap[l]? = some (.loop (rec .ready none))/\W.heap[d]? = some (.deferred (some []))
 let Jx:List α->World->Prop:=fun pre W=>∃c,Ix c pre W/\W.heap[l]? = some (.loop (rec .done (some c)))/\W.heap[d]? = some (.deferred (some []))
 refine⟨l,[{ target:=.collected d,args:=#[] }],W1,{ target:=.fn (.func gf) lb,args:=#[.func (.yield l) #[] #[]] },W1,gf,#[.func (.yield l) #[] #[]]++lb,W1,?_,?_,?_,?_,?_,?_⟩
 ·rw[<-hW1,hrec,hl,hd];exact run_enterLoop_outer _ _ _ _ _
 ·simp only[resolve,hg];simp[go_sem]
 ·intro f' hf';trivial
 ·simp[invoke,go_sem,eg]
 ·intro h;simp[Fence.wide] at h
 refine(hseq l J Jx W1 (fun pre W h=>hrd pre W h.1) (fun pre W W' h hb=>⟨hIb pre W W' h.1 hb,(hb.block _ (Array.getElem?_eq_some_iff.1 h.2.1).1).trans h.2.1,(hb.block _ (Array.getElem?_eq_some_iff.1 h.2.2).1).trans h.2.2⟩) ?_ ?_).mono ?_
 ·-- a round
  rintro pre x W ⟨h1,h7,h8⟩ hRx;have hlW:l < W.heap.size:=(Array.getElem?_eq_some_iff.1 h7).1;have hy:=run_yield (P:=P) (args:=enc x) h7 (by rw[hrec];exact hps x);rw[hrec] at hy;refine⟨fn,_,assign,body,hy,roundIn_of_wpIn trivial (hassign l x W _ ⟨_,run_beginRound h7 (by rw[hrec]),?_⟩)⟩;obtain⟨W2,hW2⟩:∃W2,W2=W.putObj l (.loop { rec .ready none with state:=.busy }):=⟨_,rfl⟩;have g7:W2.heap[l]? = some (.loop { rec .ready none with state:=.busy }):=by rw[hW2];exact World.putObj_heap_same hlW
  have g8:W2.heap[d]? = some (.deferred (some [])):=by rw[hW2];exact(World.putObj_heap_other hdl).trans h8
  have gR:R pre x W2:=by rw[hW2];exact hR pre x W l _ _ (by omega) trivial hRx h7 trivial
  have gI:I pre W2:=by rw[hW2];exact hI pre W l _ _ (by omega) trivial h1 h7 trivial
  rw[<-hW2];refine wpIn_mono (hbody l pre x W2 gI gR) ?_
  have fin:∀(jump:Option Code) (W3:World),KeepL W2 W3->
    (Instr.endRound l jump).run P W3 = .ok (.bool jump.isNone) (W3.putObj l (.loop (rec (if jump.isNone then .ready else .done) jump)))/\
    (W3.putObj l (.loop (rec (if jump.isNone then .ready else .done) jump))).heap[l]? = some (.loop (rec (if jump.isNone then .ready else .done) jump))/\
    (W3.putObj l (.loop (rec (if jump.isNone then .ready else .done) jump))).heap[d]? = some (.deferred (some []))/\W3.heap[l]? = some (.loop { rec .ready none with state:=.busy }):=by
   intro jump W3 k1;have hl3:=k1.objs l _ g7 trivial;have hl3':l < W3.heap.size:=(Array.getElem?_eq_some_iff.1 hl3).1;have hend:=run_endRound (P:=P) jump hl3;exact⟨by rw[hrec] at hend|-;exact hend,World.putObj_heap_same hl3',(World.putObj_heap_other hdl).trans (k1.objs d _ g8 trivial),hl3⟩
  rintro e a3 W3 hp;cases e with
  | normal=>
   obtain⟨f1,f2,f3,f4⟩:=fin none W3 hp.1;exact⟨_,_,f1,.inl ⟨rfl,hI _ W3 l _ _ (by omega) trivial hp.2 f4 trivial,f2,f3⟩⟩
  | ret=>
   obtain⟨f1,f2,f3,f4⟩:=fin (some .ret) W3 hp.1;exact⟨_,_,f1,.inr ⟨rfl,_,hIx _ _ W3 l _ _ (by omega) trivial hp.2 f4 trivial,f2,f3⟩⟩
  | exit id=>
   obtain⟨f1,f2,f3,f4⟩:=fin (some (.exit id)) W3 hp.1;exact⟨_,_,f1,.inr ⟨rfl,_,hIx _ _ W3 l _ _ (by omega) trivial hp.2 f4 trivial,f2,f3⟩⟩
  | goto t=>
   obtain⟨f1,f2,f3,f4⟩:=fin (some (.goto t)) W3 hp.1;exact⟨_,_,f1,.inr ⟨rfl,_,hIx _ _ W3 l _ _ (by omega) trivial hp.2 f4 trivial,f2,f3⟩⟩
  | panic ch=>exact hp.elim
  | outgrown=>exact hp.elim
 ·refine⟨?_,hl1,hd1⟩;rw[<-hW1];exact hIb _ _ _ (hIb _ _ _ h0 ((Below.refl _ w).alloc (Nat.le_refl _) _)) ((Below.refl _ _).alloc (Nat.le_refl _) _)
 ·-- behind the iterator
  rintro e W2 ⟨⟨v,rfl⟩,(⟨xs,hS,h1,h7,h8⟩|⟨pre,c,h1,h7,h8⟩)⟩
  ·have hend:=run_endLoop (P:=P) h7 (by rw[hrec];simp);rw[hrec] at hend;exact⟨none,_,hend,hdone d xs _ hS (hI _ W2 l _ _ (by omega) trivial h1 h7 trivial) (by omega) ((World.putObj_heap_other hdl).trans h8)⟩
  ·have hend:=run_endLoop (P:=P) h7 (by rw[hrec];simp);rw[hrec] at hend;exact⟨some c,_,hend,hstop d c pre _ (hIx c _ W2 l _ _ (by omega) trivial h1 h7 trivial) (by omega) ((World.putObj_heap_other hdl).trans h8)⟩
theorem orInt {w:World}{b:Nat}{x y:Int}(c0:w.cell? ⟨b,0,none⟩=some (.int .i64 x)) (c1:w.cell? ⟨b,1,none⟩=some (.int .i64 y)):Calls Tryz.prog 176 #[.slice (some ⟨b,0,none⟩) 2 2] w fun e w'=>e = .returned (.int .i64 (if x=0 then y else x))/\w'=w:=by
 by_cases hx:x=0
 ·subst hx;by_cases hy:y=0
  ·subst hy;rw[if_pos rfl];go_enter Tryz.func176, Tryz.ntmps176
   go_wp2_with fail
   go_loopw [8] (fun iv wr=>∃i:Nat,iv = .int .i64 i/\i<=2/\wr=w) (fun iv _=>2 - (intOf iv).toNat)
   case atStart=>exact⟨0,rfl,by omega,rfl⟩
   case round=>
    obtain⟨i,rfl,hi,rfl⟩:=hrel;have h3:i=0\/i=1\/i=2:=(by omega);rcases h3 with rfl|rfl|rfl
    ·go_wp2;go_roundw
     case rel=>exact⟨1,rfl,by omega,by first|rfl|trivial⟩
     case measure=>simp[intOf]
    ·go_wp2;go_roundw
     case rel=>exact⟨2,rfl,by omega,by first|rfl|trivial⟩
     case measure=>simp[intOf]
    ·go_wp2;go_ret;exact⟨rfl,rfl⟩
  ·have hb:(y != 0)=true:=(by simpa using hy);rw[if_pos rfl];replace hy:=qH hy;go_enter Tryz.func176, Tryz.ntmps176
   go_wp2_with fail
   go_loopw [8] (fun iv wr=>∃i:Nat,iv = .int .i64 i/\i<=1/\wr=w) (fun iv _=>2 - (intOf iv).toNat)
   case atStart=>exact⟨0,rfl,by omega,rfl⟩
   case round=>
    obtain⟨i,rfl,hi,rfl⟩:=hrel;have h3:i=0\/i=1:=(by omega);rcases h3 with rfl|rfl
    ·go_wp2;go_roundw
     case rel=>exact⟨1,rfl,by omega,by first|rfl|trivial⟩
     case measure=>simp[intOf]
    ·go_wp2;go_ret;exact⟨rfl,rfl⟩
 ·have hb:(x != 0)=true:=by simpa using hx
  rw[if_neg hx];replace hx:=qH hx;go_enter Tryz.func176, Tryz.ntmps176
  go_wp2_with fail
  go_loopw [8] (fun iv wr=>iv = .int .i64 0/\wr=w) (fun _ _=>1)
  case atStart=>exact⟨rfl,rfl⟩
  case round=>
   obtain⟨rfl,rfl⟩:=hrel;go_wp2;go_ret;exact⟨rfl,rfl⟩
def posV (x:List Int):Bool:=decide (0<=x.getD 0 0) && (decide (x.getD 0 0 < 8) && (decide (0<=x.getD 1 0) && decide (x.getD 1 0<=1048576)))
theorem posV_two (a b:Int):posV [a,b]=(decide (0<=a) && (decide (a < 8) && (decide (0<=b) && decide (b<=1048576)))):=rfl
theorem possibleC (a b:Int) (w:World):Calls Tryz.prog 110 #[.agg #[.int .i64 a,.int .i64 b]] w fun e w'=>e = .returned (.bool (posV [a,b]))/\Below w.heap.size w w':=by
 rw[posV_two];obtain⟨W1,hW1⟩:=exF (w.alloc (.cells #[.int .i64 a,.int .i64 b] 83));have hb1:Below w.heap.size w W1:=by rw[hW1];exact(Below.refl _ w).alloc (Nat.le_refl _) _
 have kA:W1.heap[w.heap.size]? = some (.cells #[.int .i64 a,.int .i64 b] 83):=by rw[hW1];exact heap_alloc_new _ _
 obtain⟨z0,z1⟩:=boxL2 kA;rw[hW1] at z0 z1;clear kA;by_cases h1:0<=a
 ·by_cases h2:a < 8
  ·by_cases h3:0<=b
   ·have e1:=decide_eq_true h1;have e2:=decide_eq_true h2;have e3:=decide_eq_true h3;obtain⟨B,hB⟩:=exE (decide (b<=1048576));rw[e1,e2,e3,hB];clear h1 h2 h3;go_enter Tryz.func110, Tryz.ntmps110
    go_wp2;go_ret;rw[<-hW1];exact⟨by simp,hb1⟩
   ·have e1:=decide_eq_true h1;have e2:=decide_eq_true h2;have e3:=decide_eq_false h3;rw[e1,e2,e3];clear h1 h2 h3;go_enter Tryz.func110, Tryz.ntmps110
    go_wp2;go_ret;rw[<-hW1];exact⟨rfl,hb1⟩
  ·have e1:=decide_eq_true h1;have e2:=decide_eq_false h2;rw[e1,e2];clear h1 h2;go_enter Tryz.func110, Tryz.ntmps110
   go_wp2;go_ret;rw[<-hW1];exact⟨rfl,hb1⟩
 ·have e1:=decide_eq_false h1;rw[e1];clear h1;go_enter Tryz.func110, Tryz.ntmps110
  go_wp2;go_ret;rw[<-hW1];exact⟨rfl,hb1⟩
def opsOrd1:List Oper:=[⟨some 5,.fieldAddr 83 (.tmp 2) 0,0,"simplex.go:14",#[],none⟩,⟨some 6,.load 3 (.tmp 5),3,"simplex.go:14",#[⟨0,.data⟩],none⟩,⟨some 7,.fieldAddr 83 (.tmp 3) 0,0,"simplex.go:14",#[],none⟩,⟨some 8,.load 3 (.tmp 7),3,"simplex.go:14",#[⟨2,.data⟩],none⟩,⟨some 9,.call { callee:=.value (.func 177),args:=#[.tmp 6,.tmp 8],argTypes:=#[3,3] },3,"simplex.go:14",#[⟨1,.data⟩,⟨3,.data⟩],none⟩,⟨some 10,.fieldAddr 83 (.tmp 2) 1,0,"simplex.go:14",#[],none⟩,⟨some 11,.load 3 (.tmp 10),3,"simplex.go:14",#[⟨5,.data⟩],none⟩,⟨some 12,.fieldAddr 83 (.tmp 3) 1,0,"simplex.go:14",#[],none⟩,⟨some 13,.load 3 (.tmp 12),3,"simplex.go:14",#[⟨7,.data⟩],none⟩,⟨some 14,.call { callee:=.value (.func 177),args:=#[.tmp 11,.tmp 13],argTypes:=#[3,3] },3,"simplex.go:14",#[⟨6,.data⟩,⟨8,.data⟩,⟨4,.chain⟩],none⟩,⟨some 15,.buildSlice 48 2 #[(0,.tmp 9),(1,.tmp 14)],48,"simplex.go:14",#[⟨4,.data⟩,⟨9,.data⟩],none⟩,⟨some 16,.call { callee:=.value (.func 176),args:=#[.tmp 15],argTypes:=#[48] },3,"simplex.go:14",#[⟨10,.data⟩,⟨9,.chain⟩],none⟩,⟨some 4,.assign (.tmp 16),3,"simplex.go:14",#[⟨11,.data⟩,⟨11,.chain⟩,⟨0,.phase⟩,⟨1,.phase⟩,⟨2,.phase⟩,⟨3,.phase⟩,⟨4,.phase⟩,⟨5,.phase⟩,⟨6,.phase⟩,⟨7,.phase⟩,⟨8,.phase⟩,⟨9,.phase⟩,⟨10,.phase⟩,⟨11,.phase⟩],none⟩]
theorem regOrd1 {w:World}{x0 x1 x4 x5 x6 x7 x8 x9 x10 x11 x12 x13 x14 x15 x16:Value}{Q:Exit->Act->World->Prop}{b2 b3:Nat}{a b c d:Int}
  (p0:w.cell? ⟨b2,0,none⟩=some (.int .i64 a)) (p1:w.cell? ⟨b2,1,none⟩=some (.int .i64 b)) (q0:w.cell? ⟨b3,0,none⟩=some (.int .i64 c)) (q1:w.cell? ⟨b3,1,none⟩=some (.int .i64 d))
  (hfin:∀(y10:Value) (W:World),(Below w.heap.size w W/\w.drawn<=W.drawn)->(∃g,y10 = .slice (some ⟨g,0,none⟩) 2 2/\W.heap[g]? = some (.cells #[.int .i64 (cmpI a c),.int .i64 (cmpI b d)] 3))->Q .normal ⟨#[x0,x1,.pointer (some ⟨b2,0,none⟩),.pointer (some ⟨b3,0,none⟩),.int .i64 (if cmpI a c=0 then cmpI b d else cmpI a c),.pointer (some ⟨b2,0,none⟩),.int .i64 a,.pointer (some ⟨b3,0,none⟩),.int .i64 c,.int .i64 (cmpI a c),.pointer (some ⟨b2,1,none⟩),.int .i64 b,.pointer (some ⟨b3,1,none⟩),.int .i64 d,.int .i64 (cmpI b d),y10,.int .i64 (if cmpI a c=0 then cmpI b d else cmpI a c)],[]⟩ W) :
  (Code.region 1 opsOrd1.toArray true).wp Tryz.prog Q ⟨#[x0,x1,.pointer (some ⟨b2,0,none⟩),.pointer (some ⟨b3,0,none⟩),x4,x5,x6,x7,x8,x9,x10,x11,x12,x13,x14,x15,x16],[]⟩ w:=by
 refine wp_region_sg (l:=opsOrd1) (F:=(fun ys=>⟨#[x0,x1,.pointer (some ⟨b2,0,none⟩),.pointer (some ⟨b3,0,none⟩),ys 12,ys 0,ys 1,ys 2,ys 3,ys 4,ys 5,ys 6,ys 7,ys 8,ys 9,ys 10,ys 11],[]⟩)) (Φ:=[eqV (.pointer (some ⟨b2,0,none⟩)),eqV (.int .i64 a),eqV (.pointer (some ⟨b3,0,none⟩)),eqV (.int .i64 c),eqV (.int .i64 (cmpI a c)),eqV (.pointer (some ⟨b2,1,none⟩)),eqV (.int .i64 b),eqV (.pointer (some ⟨b3,1,none⟩)),eqV (.int .i64 d),eqV (.int .i64 (cmpI b d)),fun W v=>∃g,v = .slice (some ⟨g,0,none⟩) 2 2/\W.heap[g]? = some (.cells #[.int .i64 (cmpI a c),.int .i64 (cmpI b d)] 3),eqV (.int .i64 (if cmpI a c=0 then cmpI b d else cmpI a c)),eqV (.int .i64 (if cmpI a c=0 then cmpI b d else cmpI a c))]) (R:=(fun W W'=>Below W.heap.size W W')) (G:=(fun _ _ W=>Below w.heap.size w W/\w.drawn<=W.drawn)) ⟨?s0,?s1,?s2,?s3,?s4,?s5,?s6,?s7,?s8,?s9,?s10,?s11,?s12,trivial⟩ (fun i=>([x5,x6,x7,x8,x9,x10,x11,x12,x13,x14,x15,x16,x4]:List Value).getD i undef) (by kernel_rfl) (by kernel_rfl) ⟨sE,sE,sE,sE,sE,sE,sE,sE,sE,sE,fun W W' v ⟨g,e,h⟩ r=>⟨g,e,keptO r h⟩,sE,sE,trivial⟩ ?g0 ?gx ?fin
 case s0|s2|s5|s7=>
  refine .q0 (wantU rfl) (fun _=>Below.refl _ _) (fun _ _ _ h=>h) (fun _=>rfl) fun ys W K hK=>?_;go_simp;exact hK
 case s1=>
  refine StepG.mk rfl (openY 0 fun y0=>fun ys D W K _ _ hd hG hK=>?_);obtain rfl:=(hd.get 0 rfl).2;dsimp [updG]
  obtain⟨g1,g2⟩:=hG;have c:=cell_kept g1 p0;go_simp;exact hK _ _ (Below.refl _ _) ⟨g1,g2⟩ rfl
 case s3=>
  refine StepG.mk rfl (openY 2 fun y2=>fun ys D W K _ _ hd hG hK=>?_);obtain rfl:=(hd.get 2 rfl).2;dsimp [updG]
  obtain⟨g1,g2⟩:=hG;have c:=cell_kept g1 q0;go_simp;exact hK _ _ (Below.refl _ _) ⟨g1,g2⟩ rfl
 case s4=>
  refine StepG.mk rfl (openY 1 fun y1=>openY 3 fun y3=>fun ys D W K _ _ hd hG hK=>?_);obtain rfl:=(hd.get 1 rfl).2;obtain rfl:=(hd.get 3 rfl).2;dsimp [updG]
  obtain⟨g1,g2⟩:=hG;go_simp;refine(cmpInt a c W).mono ?_;rintro e W9 ⟨rfl,rfl⟩;exact hK _ _ (Below.refl _ _) ⟨g1,g2⟩ rfl
 case s6=>
  refine StepG.mk rfl (openY 5 fun y5=>fun ys D W K _ _ hd hG hK=>?_);obtain rfl:=(hd.get 5 rfl).2;dsimp [updG]
  obtain⟨g1,g2⟩:=hG;have c:=cell_kept g1 p1;go_simp;exact hK _ _ (Below.refl _ _) ⟨g1,g2⟩ rfl
 case s8=>
  refine StepG.mk rfl (openY 7 fun y7=>fun ys D W K _ _ hd hG hK=>?_);obtain rfl:=(hd.get 7 rfl).2;dsimp [updG]
  obtain⟨g1,g2⟩:=hG;have c:=cell_kept g1 q1;go_simp;exact hK _ _ (Below.refl _ _) ⟨g1,g2⟩ rfl
 case s9=>
  refine StepG.mk rfl (openY 6 fun y6=>openY 8 fun y8=>fun ys D W K _ _ hd hG hK=>?_);obtain rfl:=(hd.get 6 rfl).2;obtain rfl:=(hd.get 8 rfl).2;dsimp [updG]
  obtain⟨g1,g2⟩:=hG;go_simp;refine(cmpInt b d W).mono ?_;rintro e W9 ⟨rfl,rfl⟩;exact hK _ _ (Below.refl _ _) ⟨g1,g2⟩ rfl
 case s10=>
  refine StepG.mk rfl (openY 4 fun y4=>openY 9 fun y9=>fun ys D W K _ _ hd hG hK=>?_);obtain rfl:=(hd.get 4 rfl).2;obtain rfl:=(hd.get 9 rfl).2;dsimp [updG]
  obtain⟨g1,g2⟩:=hG;go_simp;exact hK _ _ ((Below.refl _ W).alloc (Nat.le_refl _) _) ⟨btt g1 ((Below.refl _ W).alloc (Nat.le_refl _) _),g2⟩ ⟨_,rfl,heap_alloc_new W _⟩
 case s11=>
  refine StepG.mk rfl (openY 10 fun y10=>fun ys D W K _ _ hd hG hK=>?_);have ⟨d10,e10⟩:=hd.get 10 rfl;dsimp [updG]
  obtain⟨g,e10,h10⟩:=(hd.get 10 rfl).2;subst e10;obtain⟨g1,g2⟩:=hG;obtain⟨z0,z1⟩:=boxL2 h10;go_simp;refine(orInt z0 z1).mono ?_;rintro e W9 ⟨rfl,rfl⟩;exact hK _ _ (Below.refl _ _) ⟨g1,g2⟩ rfl
 case s12=>
  refine .q1 (wantU rfl) (fun _=>Below.refl _ _) (fun _ _ _ h=>h) (fun _=>rfl) rfl (fun _ _ h=>h) fun ys W K hK=>?_;dsimp [updG]
  go_simp;exact hK
 case g0=>exact⟨below_drewN (Below.refl _ w) 1,Nat.le_add_right _ _⟩
 case gx=>exact fun D D' ys W h hG=>hG
 case fin=>
  intro ys W hG hp;try dsimp only
  rw[(hpE hp 0:ys 0=_),(hpE hp 1:ys 1=_),(hpE hp 2:ys 2=_),(hpE hp 3:ys 3=_),(hpE hp 4:ys 4=_),(hpE hp 5:ys 5=_),(hpE hp 6:ys 6=_),(hpE hp 7:ys 7=_),(hpE hp 8:ys 8=_),(hpE hp 9:ys 9=_),(hpE hp 11:ys 11=_),(hpE hp 12:ys 12=_)];exact hfin (ys 10) W hG (hpE hp 10)
theorem two {x:List Int}(h:x.length=2):∃a b,x = [a,b]:=by
 match x,h with
 | [a,b],_=>exact⟨a,b,rfl⟩
theorem CI.all2 {w:World}{b o:Nat}{x0 x1:Int}(h:CI w b o [x0,x1]):w.cell? ⟨b,o,none⟩=some (.int .i64 x0)/\w.cell? ⟨b,o+1,none⟩=some (.int .i64 x1):=
 ⟨h 0 (by simp),h 1 (by simp)⟩
theorem eqVxE (d:Nat) (a b a' b':Int) (w:World):(Op.equalIn (d+2) 83 (.agg #[.int .i64 a,.int .i64 b]) (.agg #[.int .i64 a',.int .i64 b'])).run Tryz.prog w = .ok (eqL [a,b] [a',b']) w:=by
 have u3:=Tryz.underlying3;have a3:=Tryz.isAgg3;have z3:=Tryz.sizeOf3;have hS : Tryz.prog.underlying 83=some (.struct (Tryz.prog.fieldsOf 83)):=by kernel_rfl
 have hp : Tryz.prog.stoodInHeld 83=false:=by kernel_rfl
 rw[show d+2=(d+1)+1 from rfl,run_equalIn_agg w (d+1) 83 _ _ hS hp];simp only[Program.fieldsOf,Tryz.underlying83];go_simp;by_cases h0:a=a'<;>by_cases h1:b=b'<;>simp_all [eqL]
@[go_sem high] theorem eqVxE' (a b a' b':Int) (w:World):(Op.equalIn 10000 83 (.agg #[.int .i64 a,.int .i64 b]) (.agg #[.int .i64 a',.int .i64 b'])).run Tryz.prog w = .ok (eqL [a,b] [a',b']) w:=eqVxE 9998 a b a' b' w
theorem cmpL_two (a b c d:Int):cmpL [a,b] [c,d]=if cmpI a c=0 then cmpI b d else cmpI a c:=by
 by_cases h:cmpI a c=0
 ·rw[if_pos h,cmpL_hd h];by_cases k:cmpI b d=0
  ·rw[cmpL_hd k,k];rfl
  ·rw[cmpL_ne k]
 ·rw[if_neg h,cmpL_ne h]
theorem orderC (a b c d:Int) (w:World):Calls Tryz.prog 111 #[.agg #[.int .i64 a,.int .i64 b],.agg #[.int .i64 c,.int .i64 d]] w fun e w'=>e = .returned (.int .i64 (cmpL [a,b] [c,d]))/\Below w.heap.size w w'/\w.drawn<=w'.drawn:=by
 obtain⟨W1,hW1⟩:=exF ((w.alloc (.cells #[.int .i64 a,.int .i64 b] 83)).alloc (.cells #[.int .i64 c,.int .i64 d] 83));have hb1:Below w.heap.size w W1:=by rw[hW1];exact((Below.refl _ w).alloc (Nat.le_refl _) _).alloc (by simp) _
 have hd1:Hid (w.drawn=W1.drawn):=by show _=_;rw[hW1];rfl
 have kA:W1.heap[w.heap.size]? = some (.cells #[.int .i64 a,.int .i64 b] 83):=by
  rw[hW1];exact(Below.heap_alloc _ _ _ (by simp)).trans (heap_alloc_new w _)
 have kB:W1.heap[w.heap.size+1]? = some (.cells #[.int .i64 c,.int .i64 d] 83):=by
  rw[hW1];have:=heap_alloc_new (w.alloc (.cells #[.int .i64 a,.int .i64 b] 83)) (.cells #[.int .i64 c,.int .i64 d] 83)
  rwa [World.size_alloc] at this
 have hA:=qH (boxL2 kA);have hB:=qH (boxL2 kB);clear kA kB;rw[cmpL_two];obtain⟨E,hE⟩:∃E,(if cmpI a c=0 then cmpI b d else cmpI a c)=E:=⟨_,rfl⟩;have hE2:=qH hE;rw[hE];clear hE;go_enter Tryz.func111, Tryz.ntmps111
 go_upto_region 1 with fail
 rw[<-hW1];replace hW1:=qH hW1;refine regOrd1 (a:=a) (b:=b) (c:=c) (d:=d) hA.out.1 hA.out.2 hB.out.1 hB.out.2 ?_;rintro y10 W2 ⟨g1,g2⟩ -;rw[hE2.out];have hs:=hb1.size;go_wp2;go_ret;exact⟨rfl,hb1.trans (g1.mono hs),by rw[hd1.out];exact g2⟩
def chkR:List Int->Jb->Int
 | _,[]=>0
 | p,x::r=>if posV x=false then 2 else if 0<=cmpL p x then 14 else chkR x r
def chkS (s:Jb):Int:=
 if s.length=0 then 16 else if 8 < s.length then 5 else
 match s with
 | []=>0
 | x::r=>if posV x=false then 2 else chkR x r
theorem checkS {w:World}{v:Value}{s:Jb}(h:KS 2 w v s):Calls Tryz.prog 61 #[v] w fun e w'=>e = .returned (.int .i64 (chkS s))/\Below w.heap.size w w':=by
 have hmx : Tryz.prog.follows .mixedOrders=true:=by kernel_rfl
 obtain⟨va,vc,vb,vo,rfl,ha,hc,-⟩:=h;by_cases h0:s.length=0
 ·have hE:chkS s=16:=by unfold chkS;rw[if_pos h0]
  rw[hE,h0];clear hE hc;go_enter Tryz.func61, Tryz.ntmps61
  go_wp2;go_ret;exact⟨rfl,Below.refl _ w⟩
 by_cases h8:8 < s.length
 ·have hE:chkS s=5:=by unfold chkS;rw[if_neg h0,if_pos h8]
  have d1:((s.length:Int) == 0)=false:=by simpa using h0
  have d2:decide ((8:Int) < (s.length:Int))=true:=decide_eq_true (by omega);rw[hE];clear hE hc;go_enter Tryz.func61, Tryz.ntmps61
  go_wp2;go_ret;exact⟨rfl,Below.refl _ w⟩
 obtain rfl:=ha (by omega);obtain⟨n,hn⟩:=exE (s.length);have d1:((n:Int) == 0)=false:=by simp;omega
 have d2:decide ((8:Int) < (n:Int))=false:=decide_eq_false (by omega);obtain⟨E,hE⟩:=exE (chkS s)
 have hst:Hid ((if posV (s.getD 0 [])=false then (2:Int) else chkR (s.getD 0 []) (s.drop 1))=E):=by
  show _=_;rw[<-hE];unfold chkS;rw[if_neg h0,if_neg h8];cases s with
  | nil=>exact absurd rfl h0
  | cons x r=>rfl
 have hstep:Hid (∀i,i < n->chkR (s.getD (i - 1) []) (s.drop i)=if posV (s.getD i [])=false then 2 else if 0<=cmpL (s.getD (i - 1) []) (s.getD i []) then 14 else chkR (s.getD i []) (s.drop (i+1))):=fun i hi=>by
  have e:s.getD i []=s[i]'(by rw[hn];exact hi):=getD_eq (by rw[hn];exact hi) [];rw[List.drop_eq_getElem_cons (by omega),chkR,e]
 have hend:Hid (chkR (s.getD (n - 1) []) (s.drop n)=0):=by
  show _=_;rw[List.drop_eq_nil_of_le (by omega),chkR]
 have hcl:=qH hc;have hnh:=qH hn;rw[hE,hn];have hi0:0 < n:=by omega
 have hn8:n<=8:=by omega
 replace hE:=qH hE;clear hc hn h0 h8;go_enter Tryz.func61, Tryz.ntmps61
 go_wp2_with fail
 go_loopw [15] (fun iv wr=>∃i:Nat,iv = .int .i64 i/\i<=n/\Hid (0 < i->chkR (s.getD (i - 1) []) (s.drop i)=E)/\Below w.heap.size w wr) (fun iv _=>n - (intOf iv).toNat)
 case atStart=>exact⟨0,rfl,by omega,fun h=>absurd h (Nat.lt_irrefl _),Below.refl _ w⟩
 case round=>
  obtain⟨i,rfl,hi,hg,hbr⟩:=hrel;by_cases hlt:i < n
  ·have hii:(i:Int) < (n:Int):=(by omega);obtain⟨x2,xi⟩:=hcl.out i (by rw[hnh.out];exact hlt);obtain⟨x,hx⟩:=exE (s.getD i []);rw[hx] at x2 xi;have hsi:=hstep.out i hlt;rw[hx] at hsi;obtain⟨a,b,rfl⟩:=two x2;obtain⟨c0,c1⟩:=xi.all2;replace c0:=cell_kept hbr c0;replace c1:=cell_kept hbr c1;clear xi x2;obtain⟨W2,hW2⟩:=exF (wr.alloc (.cells #[.int .i64 a,.int .i64 b] 83));have hbw:Below wr.heap.size wr W2:=(by rw[hW2];exact(Below.refl _ _).alloc (Nat.le_refl _) _);have kA:W2.heap[wr.heap.size]? = some (.cells #[.int .i64 a,.int .i64 b] 83):=(by rw[hW2];exact heap_alloc_new _ _);have HKA:=qH (fun W (hb:Below W2.heap.size W2 W)=>boxL2 (keptO hb kA));obtain⟨z0,z1⟩:=boxL2 kA;rw[hW2] at z0 z1;have hb2:=btt hbr hbw;clear kA;obtain⟨B,hB⟩:=exE (posV [a,b]);have HP:=fun W=>possibleC a b W;rw[hB] at HP hsi;replace HP:=qH HP;cases B
   ·have hE2:Hid (E=2):=by
     show _=_;rw[if_pos rfl] at hsi;rcases Nat.eq_zero_or_pos i with h|h
     ·subst h;have:=hst.out
      rw[hx,hB,if_pos rfl] at this;exact this.symm
     ·exact(hg.out h).symm.trans hsi
    clear hx hB hsi;go_wp2_with fail
    rw[<-hW2];replace hW2:=qH hW2;refine(HP.out W2).mono ?_;rintro e w3 ⟨rfl,hb3⟩;go_wp2;go_ret;exact⟨by rw[hE2.out];rfl,btt hb2 hb3⟩
   ·rw[if_neg (by decide)] at hsi;rcases Nat.eq_zero_or_pos i with h|h
    ·have hnx:Hid (0 < i+1->chkR (s.getD (i+1 - 1) []) (s.drop (i+1))=E):=fun _=>by
      have:=hst.out
      subst h;rw[hx,hB,if_neg (by decide)] at this;rw[show 0+1 - 1=0 from rfl,hx];exact this
     have hpos:decide ((0:Int) < (i:Int))=false:=decide_eq_false (by omega);have hp0 : ¬0 < i:=(by omega);replace h:=qH h;clear hx hB hsi;go_wp2_with fail
     rw[<-hW2];replace hW2:=qH hW2;refine(HP.out W2).mono ?_;rintro e w3 ⟨rfl,hb3⟩;go_wp2_with fail
     refine wp_region_bw hmx (by kernel_rfl) ?_
     repeat (refine WQ.step fun K hK=>?_;go_simp;first|(refine hK _ ?_;clear hK K)|(apply Exists.intro;refine⟨fun wq hC=>?_,hK _ ?_⟩;(·(first|with_reducible rfl|(go_simp;first|done|with_reducible rfl|with_reducible exact⟨rfl,rfl⟩)));clear hK K))
     refine WQ.nil ?_;intro w4 hb4;go_wp2_with fail
     go_roundw
     case rel=>exact⟨i+1,by go_num,by omega,hnx,btt (btt hb2 hb3) hb4⟩
     case measure=>simp[intOf];omega
    ·obtain⟨y2,yi⟩:=hcl.out (i - 1) (by rw[hnh.out];omega);obtain⟨y,hy⟩:=exE (s.getD (i - 1) []);rw[hy] at y2 yi hsi;obtain⟨c,d,rfl⟩:=two y2;have hg2:=hg.out h;rw[hy] at hg2;rw[hg2] at hsi;obtain⟨q0,q1⟩:=yi.all2;have HKB:=qH (fun W (hb:Below w.heap.size w W)=>And.intro (cell_kept hb q0) (cell_kept hb q1));have HO:=fun W=>orderC c d a b W;obtain⟨Z,hZ⟩:=exE (cmpL [c,d] [a,b]);rw[hZ] at HO hsi;replace HO:=qH HO;have hsub:IntKind.i64.wrap ((i:Int) - 1)=((i - 1:Nat):Int):=(by rw[show(i:Int) - 1=((i - 1:Nat):Int) by omega];exact IntWalk.i64_in _ (by omega));have hpos:decide ((0:Int) < (i:Int))=true:=decide_eq_true (by omega);have hp0:0 < i:=h;have hlt2:((i - 1:Nat):Int) < (n:Int):=(by omega);have hnn:(0:Int)<=((i - 1:Nat):Int):=Int.natCast_nonneg _;obtain⟨j,hj⟩:=exE (i - 1);rw[hj] at HKB hsub hlt2 hnn;replace hj:=qH hj;obtain⟨C,hC⟩:=exE (decide (0<=Z))
     have hnx:Hid (C=false->0 < i+1->chkR (s.getD (i+1 - 1) []) (s.drop (i+1))=E):=fun hC' _=>by
      rw[Nat.add_sub_cancel,hx,hsi,if_neg (of_decide_eq_false (hC.trans hC'))]
     have hEx:Hid (C=true->E=14):=fun hC'=>by
      rw[hsi,if_pos (of_decide_eq_true (hC.trans hC'))]
     have hih:=qH h;clear hx hB hsi hZ hy hg2 q0 q1 yi y2 hg h;go_wp2_with fail
     rw[<-hW2];replace hW2:=qH hW2;refine(HP.out W2).mono ?_;rintro e w3 ⟨rfl,hb3⟩;go_wp2_with fail
     refine wp_region_bw hmx (by kernel_rfl) ?_;have hb23:=btt hb2 hb3;clear z0 z1 c0 c1
     repeat (refine WQ.step fun K hK=>?_;go_simp;first|(refine hK _ ?_;clear hK K)|(apply Exists.intro;refine⟨fun wq hC=>?_,hK _ ?_⟩;(·(first|with_reducible rfl|(obtain⟨q0,q1⟩:=HKB.out wq (btt hb23 hC);obtain⟨z0,z1⟩:=HKA.out wq (btt hb3 hC);go_simp;first|done|with_reducible rfl|with_reducible exact⟨rfl,rfl⟩)));clear hK K))
     (refine WQ.step fun K hK=>?_;go_simp;first|(refine hK _ ?_;clear hK K)|(apply Exists.intro;refine⟨fun wq hC=>?_,hK _ ?_⟩;(·(refine(HO.out wq).mono ?_;rintro e w' ⟨rfl,hb',-⟩;exact⟨rfl,btt hC hb'⟩));clear hK K))
     repeat (refine WQ.step fun K hK=>?_;go_simp;first|(refine hK _ ?_;clear hK K)|(apply Exists.intro;refine⟨fun wq hC=>?_,hK _ ?_⟩;(·(first|with_reducible rfl|(go_simp;first|done|with_reducible rfl|with_reducible exact⟨rfl,rfl⟩)));clear hK K))
     refine WQ.nil ?_;intro w4 hb4;clear hC;cases C
     ·go_wp2_with fail
      go_roundw
      case rel=>exact⟨i+1,by go_num,by omega,hnx.out (by first|rfl|trivial),btt hb23 hb4⟩
      case measure=>simp[intOf];omega
     ·go_wp2;go_ret;exact⟨by rw[hEx.out (by first|rfl|trivial)];rfl,btt hb23 hb4⟩
  ·obtain rfl:i=n:=(by omega);have hEz:Hid (E=0):=(by show _=_;rw[<-hg.out hi0];exact hend.out);clear hg;go_wp2;go_ret;exact⟨by rw[hEz.out];rfl,hbr⟩
end Go.Proofs.YtcnedkkcgdkioaaGreat
