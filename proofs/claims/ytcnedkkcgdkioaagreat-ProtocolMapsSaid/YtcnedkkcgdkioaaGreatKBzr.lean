/- Texts of this claim, put together: MI0 S10 MI. -/
import Derived.Test.YtcnedkkcgdkioaaGreatKBzj
import Derived.Test.YtcnedkkcgdkioaaGreatKBzp
import Derived.Test.YtcnedkkcgdkioaaGreatKBzi

set_option maxRecDepth 100000
set_option maxHeartbeats 12800000
namespace Go.Proofs.YtcnedkkcgdkioaaGreat
open Go.RowKit
def CG (B b:Nat) (w W:World):Prop:=w.heap.size<=W.heap.size/\Below b w W/\∀k,k < B->k ≠ b->W.heap[k]? = w.heap[k]?
theorem CG.refl (B b:Nat) (w:World):CG B b w w:=⟨wC _,wB _ _,fun _ _ _=>rfl⟩
theorem CG.start {B b:Nat}{w:World}(_:B<=w.heap.size):CG B b w (w.drewN 1):=⟨wC _,wH (wB _ w) 1,fun _ _ _=>rfl⟩
theorem CG.call {B b:Nat}{w W W':World}(h:CG B b w W) (a:Below W.heap.size W W') (c:B<=w.heap.size) (e:b<=B):CG B b w W':=
 ⟨wI h.1 a.size,h.2.1.trans (a.mono (wI e (wI c h.1))),fun k d n=>(a.block k (Nat.lt_of_lt_of_le d (wI c h.1))).trans (h.2.2 k d n)⟩
theorem CG.app {B b:Nat}{w W W':World}(h:CG B b w W) (a:Below B W W') (hs:W.heap.size<=W'.heap.size) (d:b<=B):CG B b w W':=
 ⟨wI h.1 hs,h.2.1.trans (a.mono d),fun k c n=>(a.block k c).trans (h.2.2 k c n)⟩
theorem CG.set {B b:Nat}{w W:World}(h:CG B b w W) (o:Nat) (v:Value):CG B b w (W.setCell ⟨b,o,none⟩ v):=
 ⟨by rw[World.size_setCell];exact h.1,h.2.1.setCell (p:=⟨b,o,none⟩) (wC _) v,fun k a n=>(Below.heap_setCell W ⟨b,o,none⟩ v k n).trans (h.2.2 k a n)⟩
theorem CG.trans {B b:Nat}{w W W':World}(h:CG B b w W) (g:CG B b W W'):CG B b w W':=⟨wI h.1 g.1,h.2.1.trans g.2.1,fun k a n=>(g.2.2 k a n).trans (h.2.2 k a n)⟩
theorem CG.cell {B b:Nat}{w W:World}(h:CG B b w W) {p:Addr}{v:Value}(a:p.block < B) (n:p.block ≠ b) (c:w.cell? p=some v):W.cell? p=some v:=(World.cell?_of_block (h.2.2 p.block a n)).trans c
def bD:List Oper:=[⟨some 23,.fieldAddr 40 (.tmp 5) 0,0,"ref.go:86",#[],none⟩,⟨some 24,.load 38 (.tmp 23),38,"ref.go:86",#[⟨0,.data⟩],none⟩,⟨some 25,.move (.tmp 6),38,"ref.go:86",#[],none⟩,⟨some 26,.move (.tmp 7),3,"ref.go:86",#[],none⟩,⟨some 27,.indexAddr 38 (.tmp 25) (.tmp 26),0,"ref.go:86",#[⟨2,.data⟩,⟨3,.data⟩],none⟩,⟨some 28,.load 83 (.tmp 27),83,"ref.go:86",#[⟨4,.data⟩],none⟩,⟨some 29,.buildSlice 38 1 #[(0,.tmp 28)],38,"ref.go:86",#[⟨5,.data⟩],none⟩,⟨some 30,.call { callee:=.builtin .append,args:=#[.tmp 24,.tmp 29],argTypes:=#[38,38] },38,"ref.go:86",#[⟨1,.data⟩,⟨6,.data⟩],none⟩,⟨some 31,.fieldAddr 40 (.tmp 5) 0,0,"ref.go:86",#[⟨0,.phase⟩,⟨1,.phase⟩,⟨2,.phase⟩,⟨3,.phase⟩,⟨4,.phase⟩,⟨5,.phase⟩,⟨6,.phase⟩,⟨7,.phase⟩],none⟩,⟨none,.store 38 (.tmp 31) (.tmp 30),0,"ref.go:86",#[⟨8,.data⟩,⟨7,.data⟩,⟨7,.chain⟩,⟨0,.phase⟩,⟨1,.phase⟩,⟨2,.phase⟩,⟨3,.phase⟩,⟨4,.phase⟩,⟨5,.phase⟩,⟨6,.phase⟩,⟨7,.phase⟩],none⟩]
theorem rT {w:World}{Y x2 x3 x4 x8 x9 Z a0 a1 a2 a3 a4 a5 a6 a7 a8 a' b0 b2 e2 e3 e4 e5 e6 e7 e8 e9 e' b4 b6 b7 b8 b9 b' c0 c1 c3 c4 c5 c6 c7 c8 c9 c' d0 d1 d2 d3:Value}{d6:Exit->Act->World->Prop}{b1 b5 B i m k E lb lo L P:Nat}{o C:Option Addr}{os rs:Jb}{cl lj:Int}
  (k8:w.heap[b5]? = some (.cells #[.slice C i E,.slice o m k] 40)) (U:AA 83 2 EI w B (.slice C i E) i rs) (Q:AA 83 2 EI w B (.slice o m k) m os) (e0:DN (.slice o m k) (.slice C i E))
  (hl:∀W,CG B b5 w W->W.cell? ⟨lb,lo+i * 2,none⟩=some (.int .i64 cl)/\W.cell? ⟨lb,lo+i * 2+1,none⟩=some (.int .i64 lj)) (hi:i<=100000) (_g5:i < L) (g6:(i:Int) < (L:Int)) (T:B<=w.heap.size) (e1:b5<=B)
  (f5:∀(M v _y9:Value) (W:World),(CG B b5 w W/\((fun i=>decide (i < 10)) 9=false->W.heap[b5]? = some (.cells #[.slice C i E,.slice o m k] 40))/\((fun i=>decide (i < 10)) 7=false->AA 83 2 EI W B (.slice C i E) i rs/\AA 83 2 EI W B (.slice o m k) m os)/\((fun i=>decide (i < 10)) 6=true->(fun i=>decide (i < 10)) 7=false->∃g,M = .slice (some ⟨g,0,none⟩) 1 1/\W.heap[g]? = some (.cells #[.int .i64 cl,.int .i64 lj] 83))/\((fun i=>decide (i < 10)) 7=true->(∃a c,v = .slice a (i+1) c)/\AA 83 2 EI W B v (i+1) (rs ++ [[cl,lj]])/\AA 83 2 EI W B (.slice o m k) m os/\DN (.slice o m k) v)/\((fun i=>decide (i < 10)) 9=true->W.heap[b5]? = some (.cells #[v,.slice o m k] 40))/\w.heap.size<=W.heap.size)->(True)->(True)->(True)->d6 .normal ⟨#[Y,.pointer (some ⟨b1,0,none⟩),x2,x3,x4,.pointer (some ⟨b5,0,none⟩),.slice (some ⟨lb,lo,none⟩) L P,.int .i64 (i:Int),x8,x9,Z,a0,a1,a2,a3,a4,a5,a6,a7,a8,a',b0,b2,.pointer (some ⟨b5,0,none⟩),.slice C i E,.slice (some ⟨lb,lo,none⟩) L P,.int .i64 (i:Int),.pointer (some ⟨lb,lo+i * 2,none⟩),.agg #[.int .i64 cl,.int .i64 lj],M,v,.pointer (some ⟨b5,0,none⟩),b4,b6,b7,b8,b9,b',c0,c1,c3,c4,c5,c6,c7,c8,c9,c',d0,d1,d2,d3],[]⟩ W) :
  (Code.region 9 bD.toArray true).wp Tryz.prog d6 ⟨#[Y,.pointer (some ⟨b1,0,none⟩),x2,x3,x4,.pointer (some ⟨b5,0,none⟩),.slice (some ⟨lb,lo,none⟩) L P,.int .i64 (i:Int),x8,x9,Z,a0,a1,a2,a3,a4,a5,a6,a7,a8,a',b0,b2,e2,e3,e4,e5,e6,e7,e8,e9,e',b4,b6,b7,b8,b9,b',c0,c1,c3,c4,c5,c6,c7,c8,c9,c',d0,d1,d2,d3],[]⟩ w:=by
 refine GB (l:=bD) (F:=(fun y=>⟨#[Y,.pointer (some ⟨b1,0,none⟩),x2,x3,x4,.pointer (some ⟨b5,0,none⟩),.slice (some ⟨lb,lo,none⟩) L P,.int .i64 (i:Int),x8,x9,Z,a0,a1,a2,a3,a4,a5,a6,a7,a8,a',b0,b2,y 0,y 1,y 2,y 3,y 4,y 5,y 6,y 7,y 8,b4,b6,b7,b8,b9,b',c0,c1,c3,c4,c5,c6,c7,c8,c9,c',d0,d1,d2,d3],[]⟩)) (Φ:=[AI (.pointer (some ⟨b5,0,none⟩)),AI (.slice C i E),AI (.slice (some ⟨lb,lo,none⟩) L P),AI (.int .i64 (i:Int)),AI (.pointer (some ⟨lb,lo+i * 2,none⟩)),AI (.agg #[.int .i64 cl,.int .i64 lj]),CM,CM,AI (.pointer (some ⟨b5,0,none⟩)),CM]) (R:=(fun _ _=>True)) (G:=(fun D y W=>CG B b5 w W/\(D 9=false->W.heap[b5]? = some (.cells #[.slice C i E,.slice o m k] 40))/\(D 7=false->AA 83 2 EI W B (.slice C i E) i rs/\AA 83 2 EI W B (.slice o m k) m os)/\(D 6=true->D 7=false->∃g,(y 6) = .slice (some ⟨g,0,none⟩) 1 1/\W.heap[g]? = some (.cells #[.int .i64 cl,.int .i64 lj] 83))/\(D 7=true->(∃a c,(y 7) = .slice a (i+1) c)/\AA 83 2 EI W B (y 7) (i+1) (rs ++ [[cl,lj]])/\AA 83 2 EI W B (.slice o m k) m os/\DN (.slice o m k) (y 7))/\(D 9=true->W.heap[b5]? = some (.cells #[(y 7),.slice o m k] 40))/\w.heap.size<=W.heap.size)) ⟨?s0,?s1,?s2,?s3,?s4,?s5,?s6,?s7,?s8,?s9,trivial⟩ (fun i=>([e2,e3,e4,e5,e6,e7,e8,e9,e',undef]:List Value).getD i undef) (by kernel_rfl) (by kernel_rfl) ⟨sE,sE,sE,sE,sE,sE,fun _ _ _ h _=>h,fun _ _ _ h _=>h,sE,fun _ _ _ h _=>h,trivial⟩ ?g0 ?gx ?fin
 case s0|s2|s3|s8=>
  refine .q0 (CE rfl) (fun _=>trivial) (fun _ _ _ h=>h) (fun _=>rfl) fun y W K e=>?_;go_simp;exact e
 case s1=>
  refine AL.mk rfl (AD 0 fun y0=>AD 6 fun M=>AD 7 fun v=>fun y D W K t N f b e=>?_);obtain rfl:=(f.get 0 rfl).2;dsimp [AJ] at b|-
  have I:=N.no (j:=9) (i:=1) rfl (by kernel_rfl) t;obtain⟨n,d,s,z,A,J,r⟩:=b;have z0:=cell_of_row _ _ 0 _ _ _ (d I);go_simp;exact e _ _ trivial ⟨n,d,s,z,A,J,r⟩ rfl
 case s4=>
  refine .q2 (CE rfl) (fun _=>trivial) (fun _ _ _ h=>h) (fun _=>rfl) rfl (fun _ _ h=>h) (fun _ _ h=>h) fun y W K e=>?_;dsimp [AJ]
  go_simp;exact e
 case s5=>
  refine AL.mk rfl (AD 4 fun y4=>AD 6 fun M=>AD 7 fun v=>fun y D W K _ _ f b e=>?_);obtain rfl:=(f.get 4 rfl).2;dsimp [AJ] at b|-
  obtain⟨n,d,s,z,A,J,r⟩:=b;obtain⟨z0,z1⟩:=hl W n;go_simp;exact e _ _ trivial ⟨n,d,s,z,A,J,r⟩ rfl
 case s6=>
  refine AL.mk rfl (AD 5 fun y5=>AD 6 fun M=>AD 7 fun v=>fun y D W K t N f b e=>?_);obtain rfl:=(f.get 5 rfl).2;dsimp [AJ] at b|-
  have H:=N.no (j:=7) (i:=6) rfl (by kernel_rfl) t;have I:=N.no (j:=9) (i:=6) rfl (by kernel_rfl) t;obtain⟨n,d,s,z,A,J,r⟩:=b;have O:Below W.heap.size W (W.alloc (.cells #[.int .i64 cl,.int .i64 lj] 83)):=(wB _ W).alloc (wC _) _;go_simp;exact e _ _ trivial ⟨n.call O T e1,fun _=>AN O (d I),fun _=>⟨(s H).1.keep (EI.stab _) O,(s H).2.keep (EI.stab _) O⟩,fun _ _=>⟨_,rfl,wE W _⟩,fun h=>(by rw[show AP D 6 7=D 7 from rfl,H] at h;cases h),fun h=>(by rw[show AP D 6 9=D 9 from rfl,I] at h;cases h),wI r O.size⟩ trivial
 case s7=>
  refine AL.mk rfl (AD 1 fun y1=>AD 6 fun M=>AD 7 fun v=>fun y D W K t N f b e=>?_);obtain rfl:=(f.get 1 rfl).2;have d9:=(f.get 6 rfl).1;dsimp [AJ] at b|-
  have I:=N.no (j:=9) (i:=7) rfl (by kernel_rfl) t;have d9:=(f.get 6 rfl).1;obtain⟨n,d,s,z,A,J,r⟩:=b;obtain⟨g,f1,hg⟩:=z d9 t;subst f1;obtain⟨U,Q⟩:=s t;refine KF (B:=B) (cs:=[.int .i64 cl,.int .i64 lj]) (x:=[cl,lj]) EE (by decide) (by decide) (EI.stab _) _ _ (by rfl) (by rfl) U ⟨g,0,none⟩ 1 (by rfl) rfl (World.news_of_block hg) (fun g7 X=>by rcases List.mem_cons.1 X with rfl|X;rfl;rw[List.mem_singleton.1 X];rfl) rfl (by omega) (wI T r) ?_;intro v9 w9 S V f8 f4 f9;obtain⟨a9,d8,rfl⟩:=S.shape;exact e _ _ trivial ⟨n.app f4 V.size e1,fun _=>(f9 b5 _ _ (d I) (by decide)).trans (d I),fun h=>(by cases h),fun _ h=>(by cases h),fun _=>⟨⟨_,_,rfl⟩,S,Q.keptG V e0,DN.new e0 Q f8⟩,fun h=>(by rw[show AP D 7 9=D 9 from rfl,I] at h;cases h),wI r V.size⟩ trivial
 case s9=>
  refine AL.mk rfl (AD 8 fun y8=>AD 6 fun M=>AD 7 fun v=>fun y D W K t _ f b e=>?_);obtain rfl:=(f.get 8 rfl).2;have H:=(f.get 7 rfl).1;dsimp [AJ] at b|-
  have H:=(f.get 7 rfl).1;obtain⟨n,d,s,z,A,J,r⟩:=b;obtain⟨⟨a9,d8,hy⟩,S,f2,f3⟩:=A H;subst hy;have k8:=d t;have z0:=cell_of_row _ _ 0 _ _ _ k8;have fz:=BG k8;have hX:=AE.setCell (p:=⟨b5,0,none⟩) k8 (.slice a9 (i+1) d8);go_simp;exact e undef _ trivial ⟨n.set _ _,fun h=>(by cases h),fun h=>(by rw[show AP D 9 7=D 7 from rfl,H] at h;cases h),fun _ h=>(by rw[show AP D 9 7=D 7 from rfl,H] at h;cases h),fun _=>⟨⟨_,_,rfl⟩,S.other (EI.stab _) (by decide) hX,f2.other (EI.stab _) (by decide) hX,f3⟩,fun _=>heap_setCell_same W b5 0 _ _ _ k8,(by rw[World.size_setCell];exact r)⟩ trivial
 case g0=>exact⟨CG.start T,fun _=>k8,fun _=>⟨U.keep (EI.stab _) (wH (wB _ w) 1),Q.keep (EI.stab _) (wH (wB _ w) 1)⟩,fun h=>(by cases h),fun h=>(by cases h),fun h=>(by cases h),wC _⟩
 case gx=>exact fun D D' y W h ⟨n,d,s,z,A,J,r⟩=>⟨n,fun q=>d ((h 9 (by decide)).trans q),fun q=>s ((h 7 (by decide)).trans q),fun q q'=>z ((h 6 (by decide)).trans q) ((h 7 (by decide)).trans q'),fun q=>A ((h 7 (by decide)).trans q),fun q=>J ((h 9 (by decide)).trans q),r⟩
 case fin=>
  intro y W b u;try dsimp only
  rw[(AG u 0:y 0=_),(AG u 1:y 1=_),(AG u 2:y 2=_),(AG u 3:y 3=_),(AG u 4:y 4=_),(AG u 5:y 5=_),(AG u 8:y 8=_)];exact f5 (y 6) (y 7) (y 9) W b (AG u 6) (AG u 7) (AG u 9)
def bC:List Oper:=[⟨some 32,.fieldAddr 40 (.tmp 5) 1,0,"ref.go:87",#[],none⟩,⟨some 33,.load 38 (.tmp 32),38,"ref.go:87",#[⟨0,.data⟩],none⟩,⟨some 34,.move (.tmp 6),38,"ref.go:87",#[],none⟩,⟨some 35,.move (.tmp 7),3,"ref.go:87",#[],none⟩,⟨some 36,.indexAddr 38 (.tmp 34) (.tmp 35),0,"ref.go:87",#[⟨2,.data⟩,⟨3,.data⟩],none⟩,⟨some 37,.fieldAddr 83 (.tmp 36) 0,0,"ref.go:87",#[⟨4,.data⟩],none⟩,⟨some 38,.load 3 (.tmp 37),3,"ref.go:87",#[⟨5,.data⟩],none⟩,⟨some 39,.fieldAddr 35 (.tmp 1) 1,0,"ref.go:87",#[],none⟩,⟨some 40,.load 32 (.tmp 39),32,"ref.go:87",#[⟨7,.data⟩],none⟩,⟨some 41,.move (.tmp 6),38,"ref.go:87",#[],none⟩,⟨some 42,.move (.tmp 7),3,"ref.go:87",#[],none⟩,⟨some 43,.indexAddr 38 (.tmp 41) (.tmp 42),0,"ref.go:87",#[⟨9,.data⟩,⟨10,.data⟩],none⟩,⟨some 44,.fieldAddr 83 (.tmp 43) 1,0,"ref.go:87",#[⟨11,.data⟩],none⟩,⟨some 45,.load 3 (.tmp 44),3,"ref.go:87",#[⟨12,.data⟩],none⟩,⟨some 46,.call { callee:=.value (.func 59),args:=#[.tmp 40,.tmp 45],argTypes:=#[32,3] },3,"ref.go:87",#[⟨8,.data⟩,⟨13,.data⟩],none⟩,⟨some 47,.build 83 #[(0,.tmp 38),(1,.tmp 46)],83,"ref.go:87",#[⟨6,.data⟩,⟨14,.data⟩],none⟩,⟨some 48,.buildSlice 38 1 #[(0,.tmp 47)],38,"ref.go:87",#[⟨15,.data⟩],none⟩,⟨some 49,.call { callee:=.builtin .append,args:=#[.tmp 33,.tmp 48],argTypes:=#[38,38] },38,"ref.go:87",#[⟨1,.data⟩,⟨16,.data⟩,⟨14,.chain⟩],none⟩,⟨some 50,.fieldAddr 40 (.tmp 5) 1,0,"ref.go:87",#[⟨0,.phase⟩,⟨1,.phase⟩,⟨2,.phase⟩,⟨3,.phase⟩,⟨4,.phase⟩,⟨5,.phase⟩,⟨6,.phase⟩,⟨7,.phase⟩,⟨8,.phase⟩,⟨9,.phase⟩,⟨10,.phase⟩,⟨11,.phase⟩,⟨12,.phase⟩,⟨13,.phase⟩,⟨14,.phase⟩,⟨15,.phase⟩,⟨16,.phase⟩,⟨17,.phase⟩],none⟩,⟨none,.store 38 (.tmp 50) (.tmp 49),0,"ref.go:87",#[⟨18,.data⟩,⟨17,.data⟩,⟨17,.chain⟩,⟨0,.phase⟩,⟨1,.phase⟩,⟨2,.phase⟩,⟨3,.phase⟩,⟨4,.phase⟩,⟨5,.phase⟩,⟨6,.phase⟩,⟨7,.phase⟩,⟨8,.phase⟩,⟨9,.phase⟩,⟨10,.phase⟩,⟨11,.phase⟩,⟨12,.phase⟩,⟨13,.phase⟩,⟨14,.phase⟩,⟨15,.phase⟩,⟨16,.phase⟩,⟨17,.phase⟩],none⟩]
theorem rS {w:World}{x0 x2 x3 x4 x8 x9 a7 a8 a9 a' b0 b2 b3 b4 b6 b7 b9 b' c0 c1 c2 c3 c4 c5 c6 c7 c9 c' d' e0 e1 e2 e3 e4 e5 e6 e7 e8 e9 e' f0 f1 f2 f3 f4 f5 f6 d1:Value}{d4:Exit->Act->World->Prop}{b1 b5 B i m C O lb lo M Q vn Z:Nat}{A N Y:Option Addr}{os rs:Jb}{cl lj ip tn:Int}
  (k8:w.heap[b5]? = some (.cells #[.slice A m C,.slice N i O] 40)) (hT:AA 83 2 EI w B (.slice N i O) i rs) (V:AA 83 2 EI w B (.slice A m C) m os) (d8:DN (.slice A m C) (.slice N i O))
  (hl:∀W,CG B b5 w W->W.cell? ⟨lb,lo+i * 2,none⟩=some (.int .i64 cl)/\W.cell? ⟨lb,lo+i * 2+1,none⟩=some (.int .i64 lj)) (hS:∀W,CG B b5 w W->W.cell? ⟨b1,7,none⟩=some (.int .i64 tn)/\W.cell? ⟨b1,8,none⟩=some (.slice Y vn Z)) (g3:∀W,CG B b5 w W->Calls Tryz.prog 59 #[.agg #[.int .i64 tn,.slice Y vn Z],.int .i64 lj] W fun e w'=>e = .returned (.int .i64 ip)/\Below W.heap.size W w') (hi:i<=100000) (_h3:i < M) (h4:(i:Int) < (M:Int)) (U:B<=w.heap.size) (a3:b5<=B)
  (g4:∀(L E _y19:Value) (W:World),(CG B b5 w W/\((fun i=>decide (i < 20)) 19=false->W.heap[b5]? = some (.cells #[.slice A m C,.slice N i O] 40))/\((fun i=>decide (i < 20)) 17=false->AA 83 2 EI W B (.slice N i O) i rs/\AA 83 2 EI W B (.slice A m C) m os)/\((fun i=>decide (i < 20)) 16=true->(fun i=>decide (i < 20)) 17=false->∃g,L = .slice (some ⟨g,0,none⟩) 1 1/\W.heap[g]? = some (.cells #[.int .i64 cl,.int .i64 ip] 83))/\((fun i=>decide (i < 20)) 17=true->(∃a c,E = .slice a (i+1) c)/\AA 83 2 EI W B E (i+1) (rs ++ [[cl,ip]])/\AA 83 2 EI W B (.slice A m C) m os/\DN (.slice A m C) E)/\((fun i=>decide (i < 20)) 19=true->W.heap[b5]? = some (.cells #[.slice A m C,E] 40))/\w.heap.size<=W.heap.size)->(True)->(True)->(True)->d4 .normal ⟨#[x0,.pointer (some ⟨b1,0,none⟩),x2,x3,x4,.pointer (some ⟨b5,0,none⟩),.slice (some ⟨lb,lo,none⟩) M Q,.int .i64 (i:Int),x8,x9,a7,a8,a9,a',b0,b2,b3,b4,b6,b7,b9,b',c0,c1,c2,c3,c4,c5,c6,c7,c9,c',.pointer (some ⟨b5,1,none⟩),.slice N i O,.slice (some ⟨lb,lo,none⟩) M Q,.int .i64 (i:Int),.pointer (some ⟨lb,lo+i * 2,none⟩),.pointer (some ⟨lb,lo+i * 2,none⟩),.int .i64 cl,.pointer (some ⟨b1,7,none⟩),.agg #[.int .i64 tn,.slice Y vn Z],.slice (some ⟨lb,lo,none⟩) M Q,.int .i64 (i:Int),.pointer (some ⟨lb,lo+i * 2,none⟩),.pointer (some ⟨lb,lo+i * 2+1,none⟩),.int .i64 lj,.int .i64 ip,.agg #[.int .i64 cl,.int .i64 ip],L,E,.pointer (some ⟨b5,1,none⟩),d1],[]⟩ W) :
  (Code.region 10 bC.toArray true).wp Tryz.prog d4 ⟨#[x0,.pointer (some ⟨b1,0,none⟩),x2,x3,x4,.pointer (some ⟨b5,0,none⟩),.slice (some ⟨lb,lo,none⟩) M Q,.int .i64 (i:Int),x8,x9,a7,a8,a9,a',b0,b2,b3,b4,b6,b7,b9,b',c0,c1,c2,c3,c4,c5,c6,c7,c9,c',d',e0,e1,e2,e3,e4,e5,e6,e7,e8,e9,e',f0,f1,f2,f3,f4,f5,f6,d1],[]⟩ w:=by
 refine GB (l:=bC) (F:=(fun y=>⟨#[x0,.pointer (some ⟨b1,0,none⟩),x2,x3,x4,.pointer (some ⟨b5,0,none⟩),.slice (some ⟨lb,lo,none⟩) M Q,.int .i64 (i:Int),x8,x9,a7,a8,a9,a',b0,b2,b3,b4,b6,b7,b9,b',c0,c1,c2,c3,c4,c5,c6,c7,c9,c',y 0,y 1,y 2,y 3,y 4,y 5,y 6,y 7,y 8,y 9,y 10,y 11,y 12,y 13,y 14,y 15,y 16,y 17,y 18,d1],[]⟩)) (Φ:=[AI (.pointer (some ⟨b5,1,none⟩)),AI (.slice N i O),AI (.slice (some ⟨lb,lo,none⟩) M Q),AI (.int .i64 (i:Int)),AI (.pointer (some ⟨lb,lo+i * 2,none⟩)),AI (.pointer (some ⟨lb,lo+i * 2,none⟩)),AI (.int .i64 cl),AI (.pointer (some ⟨b1,7,none⟩)),AI (.agg #[.int .i64 tn,.slice Y vn Z]),AI (.slice (some ⟨lb,lo,none⟩) M Q),AI (.int .i64 (i:Int)),AI (.pointer (some ⟨lb,lo+i * 2,none⟩)),AI (.pointer (some ⟨lb,lo+i * 2+1,none⟩)),AI (.int .i64 lj),AI (.int .i64 ip),AI (.agg #[.int .i64 cl,.int .i64 ip]),CM,CM,AI (.pointer (some ⟨b5,1,none⟩)),CM]) (R:=(fun _ _=>True)) (G:=(fun D y W=>CG B b5 w W/\(D 19=false->W.heap[b5]? = some (.cells #[.slice A m C,.slice N i O] 40))/\(D 17=false->AA 83 2 EI W B (.slice N i O) i rs/\AA 83 2 EI W B (.slice A m C) m os)/\(D 16=true->D 17=false->∃g,(y 16) = .slice (some ⟨g,0,none⟩) 1 1/\W.heap[g]? = some (.cells #[.int .i64 cl,.int .i64 ip] 83))/\(D 17=true->(∃a c,(y 17) = .slice a (i+1) c)/\AA 83 2 EI W B (y 17) (i+1) (rs ++ [[cl,ip]])/\AA 83 2 EI W B (.slice A m C) m os/\DN (.slice A m C) (y 17))/\(D 19=true->W.heap[b5]? = some (.cells #[.slice A m C,(y 17)] 40))/\w.heap.size<=W.heap.size)) ⟨?s0,?s1,?s2,?s3,?s4,?s5,?s6,?s7,?s8,?s9,?s10,?s11,?s12,?s13,?s14,?s15,?s16,?s17,?s18,?s19,trivial⟩ (fun i=>([d',e0,e1,e2,e3,e4,e5,e6,e7,e8,e9,e',f0,f1,f2,f3,f4,f5,f6,undef]:List Value).getD i undef) (by kernel_rfl) (by kernel_rfl) ⟨sE,sE,sE,sE,sE,sE,sE,sE,sE,sE,sE,sE,sE,sE,sE,sE,fun _ _ _ h _=>h,fun _ _ _ h _=>h,sE,fun _ _ _ h _=>h,trivial⟩ ?g0 ?gx ?fin
 case s0|s2|s3|s7|s9|s10|s18=>
  refine .q0 (CE rfl) (fun _=>trivial) (fun _ _ _ h=>h) (fun _=>rfl) fun y W K f=>?_;go_simp;exact f
 case s1=>
  refine AL.mk rfl (AD 0 fun y0=>AD 16 fun L=>AD 17 fun E=>fun y D W K v J k b f=>?_);obtain rfl:=(k.get 0 rfl).2;dsimp [AJ] at b|-
  have I:=J.no (j:=19) (i:=1) rfl (by kernel_rfl) v;obtain⟨d,o,r,t,u,z,s⟩:=b;have z0:=cell_of_row _ _ 1 _ _ _ (o I);go_simp;exact f _ _ trivial ⟨d,o,r,t,u,z,s⟩ rfl
 case s4|s11|s15=>
  refine .q2 (CE rfl) (fun _=>trivial) (fun _ _ _ h=>h) (fun _=>rfl) rfl (fun _ _ h=>h) (fun _ _ h=>h) fun y W K f=>?_;dsimp [AJ]
  go_simp;exact f
 case s5|s12=>
  refine .q1 (CE rfl) (fun _=>trivial) (fun _ _ _ h=>h) (fun _=>rfl) rfl (fun _ _ h=>h) fun y W K f=>?_;dsimp [AJ]
  go_simp;exact f
 case s6=>
  refine AL.mk rfl (AD 5 fun y5=>AD 16 fun L=>AD 17 fun E=>fun y D W K _ _ k b f=>?_);obtain rfl:=(k.get 5 rfl).2;dsimp [AJ] at b|-
  obtain⟨d,o,r,t,u,z,s⟩:=b;obtain⟨z0,z1⟩:=hl W d;go_simp;exact f _ _ trivial ⟨d,o,r,t,u,z,s⟩ rfl
 case s8=>
  refine AL.mk rfl (AD 7 fun y7=>AD 16 fun L=>AD 17 fun E=>fun y D W K _ _ k b f=>?_);obtain rfl:=(k.get 7 rfl).2;dsimp [AJ] at b|-
  obtain⟨d,o,r,t,u,z,s⟩:=b;obtain⟨z0,z1⟩:=hS W d;go_simp;exact f _ _ trivial ⟨d,o,r,t,u,z,s⟩ rfl
 case s13=>
  refine AL.mk rfl (AD 12 fun h'=>AD 16 fun L=>AD 17 fun E=>fun y D W K _ _ k b f=>?_);obtain rfl:=(k.get 12 rfl).2;dsimp [AJ] at b|-
  obtain⟨d,o,r,t,u,z,s⟩:=b;obtain⟨z0,z1⟩:=hl W d;go_simp;exact f _ _ trivial ⟨d,o,r,t,u,z,s⟩ rfl
 case s14=>
  refine AL.mk rfl (AD 8 fun y8=>AD 13 fun i0=>AD 16 fun L=>AD 17 fun E=>fun y D W K v J k b f=>?_);obtain rfl:=(k.get 8 rfl).2;obtain rfl:=(k.get 13 rfl).2;dsimp [AJ] at b|-
  have f8:=J.no (j:=15) (i:=14) rfl (by kernel_rfl) v;have T:=J.no (j:=16) (i:=15) rfl (by kernel_rfl) f8;have H:=J.no (j:=17) (i:=14) rfl (by kernel_rfl) v;have I:=J.no (j:=19) (i:=14) rfl (by kernel_rfl) v;obtain⟨d,o,r,t,u,z,s⟩:=b;go_simp;refine(g3 W d).mono ?_;rintro e W9 ⟨rfl,P⟩;exact f _ _ trivial ⟨d.call P U a3,fun _=>AN P (o I),fun _=>⟨(r H).1.keep (EI.stab _) P,(r H).2.keep (EI.stab _) P⟩,fun h=>(by rw[show AP D 14 16=D 16 from rfl,T] at h;cases h),fun h=>(by rw[show AP D 14 17=D 17 from rfl,H] at h;cases h),fun h=>(by rw[show AP D 14 19=D 19 from rfl,I] at h;cases h),wI s P.size⟩ rfl
 case s16=>
  refine AL.mk rfl (AD 15 fun i1=>AD 16 fun L=>AD 17 fun E=>fun y D W K v J k b f=>?_);obtain rfl:=(k.get 15 rfl).2;dsimp [AJ] at b|-
  have H:=J.no (j:=17) (i:=16) rfl (by kernel_rfl) v;have I:=J.no (j:=19) (i:=16) rfl (by kernel_rfl) v;obtain⟨d,o,r,t,u,z,s⟩:=b;have S:Below W.heap.size W (W.alloc (.cells #[.int .i64 cl,.int .i64 ip] 83)):=(wB _ W).alloc (wC _) _;go_simp;exact f _ _ trivial ⟨d.call S U a3,fun _=>AN S (o I),fun _=>⟨(r H).1.keep (EI.stab _) S,(r H).2.keep (EI.stab _) S⟩,fun _ _=>⟨_,rfl,wE W _⟩,fun h=>(by rw[show AP D 16 17=D 17 from rfl,H] at h;cases h),fun h=>(by rw[show AP D 16 19=D 19 from rfl,I] at h;cases h),wI s S.size⟩ trivial
 case s17=>
  refine AL.mk rfl (AD 1 fun y1=>AD 16 fun L=>AD 17 fun E=>fun y D W K v J k b f=>?_);obtain rfl:=(k.get 1 rfl).2;have T:=(k.get 16 rfl).1;dsimp [AJ] at b|-
  have I:=J.no (j:=19) (i:=17) rfl (by kernel_rfl) v;have T:=(k.get 16 rfl).1;obtain⟨d,o,r,t,u,z,s⟩:=b;obtain⟨g,f9,hg⟩:=t T v;subst f9;obtain⟨hT,V⟩:=r v;refine KF (B:=B) (cs:=[.int .i64 cl,.int .i64 ip]) (x:=[cl,ip]) EE (by decide) (by decide) (EI.stab _) _ _ (by rfl) (by rfl) hT ⟨g,0,none⟩ 1 (by rfl) rfl (World.news_of_block hg) (fun h5 hu=>by rcases List.mem_cons.1 hu with rfl|hu;rfl;rw[List.mem_singleton.1 hu];rfl) rfl (by omega) (wI U s) ?_;intro v9 w9 X a4 g6 P g7;obtain⟨d5,d6,rfl⟩:=X.shape;exact f _ _ trivial ⟨d.app P a4.size a3,fun _=>(g7 b5 _ _ (o I) (by decide)).trans (o I),fun h=>(by cases h),fun _ h=>(by cases h),fun _=>⟨⟨_,_,rfl⟩,X,V.keptG a4 d8,DN.new d8 V g6⟩,fun h=>(by rw[show AP D 17 19=D 19 from rfl,I] at h;cases h),wI s a4.size⟩ trivial
 case s19=>
  refine AL.mk rfl (AD 18 fun i2=>AD 16 fun L=>AD 17 fun E=>fun y D W K v _ k b f=>?_);obtain rfl:=(k.get 18 rfl).2;have H:=(k.get 17 rfl).1;dsimp [AJ] at b|-
  have H:=(k.get 17 rfl).1;obtain⟨d,o,r,t,u,z,s⟩:=b;obtain⟨⟨d5,d6,hy⟩,X,f',g2⟩:=u H;subst hy;have k8:=o v;have z0:=cell_of_row _ _ 1 _ _ _ k8;have fz:=BG k8;have hX:=AE.setCell (p:=⟨b5,1,none⟩) k8 (.slice d5 (i+1) d6);go_simp;exact f undef _ trivial ⟨d.set _ _,fun h=>(by cases h),fun h=>(by rw[show AP D 19 17=D 17 from rfl,H] at h;cases h),fun _ h=>(by rw[show AP D 19 17=D 17 from rfl,H] at h;cases h),fun _=>⟨⟨_,_,rfl⟩,X.other (EI.stab _) (by decide) hX,f'.other (EI.stab _) (by decide) hX,g2⟩,fun _=>heap_setCell_same W b5 1 _ _ _ k8,(by rw[World.size_setCell];exact s)⟩ trivial
 case g0=>exact⟨CG.start U,fun _=>k8,fun _=>⟨hT.keep (EI.stab _) (wH (wB _ w) 1),V.keep (EI.stab _) (wH (wB _ w) 1)⟩,fun h=>(by cases h),fun h=>(by cases h),fun h=>(by cases h),wC _⟩
 case gx=>exact fun D D' y W h ⟨d,o,r,t,u,z,s⟩=>⟨d,fun q=>o ((h 19 (by decide)).trans q),fun q=>r ((h 17 (by decide)).trans q),fun q q'=>t ((h 16 (by decide)).trans q) ((h 17 (by decide)).trans q'),fun q=>u ((h 17 (by decide)).trans q),fun q=>z ((h 19 (by decide)).trans q),s⟩
 case fin=>
  intro y W b n;try dsimp only
  rw[(AG n 0:y 0=_),(AG n 1:y 1=_),(AG n 2:y 2=_),(AG n 3:y 3=_),(AG n 4:y 4=_),(AG n 5:y 5=_),(AG n 6:y 6=_),(AG n 7:y 7=_),(AG n 8:y 8=_),(AG n 9:y 9=_),(AG n 10:y 10=_),(AG n 11:y 11=_),(AG n 12:y 12=_),(AG n 13:y 13=_),(AG n 14:y 14=_),(AG n 15:y 15=_),(AG n 18:y 18=_)];exact g4 (y 16) (y 17) (y 19) W b (AG n 16) (AG n 17) (AG n 19)
theorem qE {w:World}{M:Option Addr}{v n d:Nat}{tn:Int}{vs:Jb}(hK:KS 8 w (.slice M vs.length v) vs) (D:GI n vs) (hn:n<=5) (a6:d < vs.length) :
  Calls Tryz.prog 59 #[.agg #[.int .i64 tn,.slice M vs.length v],.int .i64 (d:Int)] w fun e w'=>e = .returned (.int .i64 (FQ vs d))/\Below w.heap.size w w':=by
 obtain⟨b8,b9,N,O,he,a8,H,-⟩:=hK;injection he with e1 e2 e3;subst e1 e3;obtain rfl:=a8 (by omega);obtain⟨a,f⟩:=AF (w.alloc (.cells #[.int .i64 tn,.slice (some ⟨N,O,none⟩) vs.length v] 32));have a3:Below w.heap.size w a:=by rw[f];exact(wB _ w).alloc (wC _) _
 have L:a.heap[w.heap.size]? = some (.cells #[.int .i64 tn,.slice (some ⟨N,O,none⟩) vs.length v] 32):=by rw[f];exact wE _ _
 have P:=qH (fun W (hb:Below a.heap.size a W)=>AC hb (BA L).2);have a4:=qH H;obtain⟨R,l⟩:=AB (FQ vs d);rw[l];have C:Hid (FQ vs d=R):=l;have T:=qH D;clear L H e2 l D;go_enter Tryz.func59, Tryz.ntmps59
 go_wp2_with fail
 rw[<-f];replace f:=qH f;go_loopw [1] (fun t wr=>∃j:Nat,t = .int .i64 j/\j < vs.length/\Hid (FQ vs j=R)/\Below a.heap.size a wr) (fun t _=>((vs.getD (intOf t).toNat []).getD 1 0).toNat)
 case atStart=>exact⟨d,rfl,a6,C,wB _ _⟩
 case round=>
  clear C;obtain⟨j,rfl,c,J,m⟩:=hrel;have g0:=P.out wr m;have b:=btt a3 m;have b2:(j:Int) < (vs.length:Int):=by omega
  obtain⟨i,x⟩:=a4.out j c;by_cases h:(vs.getD j []).getD 1 0=0
  ·have z:=(ZK h).symm.trans J.out;obtain⟨b',I⟩:=AB (vs.getD j []);rw[I] at i x h z;obtain⟨x0,y,x2,x3,x4,x5,x6,x7,rfl⟩:=CT i;replace h:y=0:=h;replace z:x2=R:=z;subst h z;obtain⟨Q,A,B,S,U,V,Y,Z⟩:=x.all8;replace A:=AC b A;replace B:=AC b B;clear x i I J Q S U V Y Z;go_wp2_with fail
   go_ret;exact⟨rfl,b⟩
  ·obtain⟨u,o,a7,E,F⟩:=ZJ T.out c h;obtain⟨p,q,b5⟩:∃p:Nat,(vs.getD j []).getD 0 0=(p:Int)/\p < n:=(T.out (vs.getD j []) (by rw[AK c];exact wG c)).2.1
   have G:0<=(vs.getD j []).getD 1 0:=by
    obtain⟨_,_,b7,b3,_⟩:=T.out (vs.getD j []) (by rw[AK c];exact wG c);omega
   have a0:Hid (FQ vs u=R):=E.symm.trans J.out;have s:Hid (((vs.getD u []).getD 1 0).toNat < ((vs.getD j []).getD 1 0).toNat):=(by show _ < _;rw[F];omega);rw[q,Int.toNat_natCast] at o;have g:=x (3+p) (by omega);rw[o] at g;have k:=x 0 (by omega);rw[q,Nat.add_zero] at k;have r:=x 1 (by omega);obtain⟨y,K⟩:=AB ((vs.getD j []).getD 1 0);rw[K] at r h G;have d1:decide (0 < y)=true:=vZ (by omega);have b6:(p:Int) < 5:=(by omega);rw[<-Nat.add_assoc] at g;replace g:=AC b g;replace k:=AC b k;replace r:=AC b r;have X:=qH (fun a9:Nat=>wH m a9);clear x i h G K o q E F J;go_wp2_with fail
   go_quiet (fail)
   go_wp2_with fail
   go_roundw
   case rel=>exact⟨u,by first|rfl|go_num,a7,a0,X.out _⟩
   case measure=>first|exact s.out|(simp[intOf];exact s.out)|(have:=s.out;simp[intOf];omega)
theorem qP {w:World}{v:Value}{n i o an r tn:Int}{cs:List Cs}{ss:Jc}{vs:Jb}{xs:List Ex}(h:CC w v n i o cs an ss r tn vs xs) (g9:DH n i o cs an ss r=true) :
  Calls Tryz.prog 13 #[v] w fun e w'=>∃v',e = .returned (.tuple #[v',.int .i64 (AZ n i o cs an ss r tn vs xs)])/\GC w' v' (if AZ n i o cs an ss r tn vs xs=0 then DB (BC (AX n.toNat r.toNat xs (-1))) else []) (if AZ n i o cs an ss r tn vs xs=0 then EQ vs (DB (BC (AX n.toNat r.toNat xs (-1)))) else [])/\Below w.heap.size w w':=by
 have HV:=qH (fun W (f:Below w.heap.size w W)=>OV (h.keep f) g9);have HG:=IR h g9;have HW:=qH (fun W (f:Below w.heap.size w W) (G:tn=n/\n=(n.toNat:Int)/\r=(r.toNat:Int)/\r.toNat<=6/\IC n.toNat r.toNat vs xs)=>QU (idx:=-1) (OY (h.keep f) G.1 G.2.1 G.2.2.1) G.2.2.2.2.n1 G.2.2.2.2.n5 G.2.2.2.2.ex (by have:=G.2.2.2.2.xl;omega));obtain⟨c6,hE⟩:=AB (AZ n i o cs an ss r tn vs xs);rw[hE] at HV HG|-;obtain⟨d1,d3,d2,c',va,vc,xa,xc,rfl,-,hV,-⟩:=h;obtain⟨g,d⟩:=AF ((w.alloc (.cells #[.int .i64 n,.int .i64 i,.int .i64 o,.slice d1 cs.length d3,.int .i64 an,.slice d2 ss.length c',.int .i64 r,.int .i64 tn,.slice va vs.length vc,.slice xa xs.length xc] 35)).alloc (.cells #[.slice none 0 0,.slice none 0 0] 40));have l8:g.heap.size=w.heap.size+2:=by rw[d];simp
 have E:Below w.heap.size w g:=by rw[d];exact((wB _ w).alloc (wC _) _).alloc (by simp) _
 have kR:g.heap[w.heap.size+1]? = some (.cells #[.slice none 0 0,.slice none 0 0] 40):=by
  rw[d];have:=wE (w.alloc (.cells #[.int .i64 n,.int .i64 i,.int .i64 o,.slice d1 cs.length d3,.int .i64 an,.slice d2 ss.length c',.int .i64 r,.int .i64 tn,.slice va vs.length vc,.slice xa xs.length xc] 35)) (.cells #[.slice none 0 0,.slice none 0 0] 40)
  rwa [World.size_alloc] at this
 have kS:g.heap[w.heap.size]? = some (.cells #[.int .i64 n,.int .i64 i,.int .i64 o,.slice d1 cs.length d3,.int .i64 an,.slice d2 ss.length c',.int .i64 r,.int .i64 tn,.slice va vs.length vc,.slice xa xs.length xc] 35):=by
  rw[d];exact(Below.heap_alloc _ _ _ (by simp)).trans (wE w _)
 have HK:=qH (fun W (f:Below g.heap.size g W)=>And.intro (keep7 f (AW kS).1) (keep3' f (AW kS).2));obtain⟨⟨Y,Z,p2,p3,p4,p5,p6⟩,y,A,p9⟩:=HK.out g (wB _ _);rw[d] at Y Z p2 p3 p4 p5 p6 y A p9;have g':=qH kR;replace hV:=qH hV;replace hE:=qH hE;clear kS kR;by_cases z:c6=0
 ·subst z;have d6:=HG rfl;have G:=d6.2.2.2.2;rw[if_pos rfl,if_pos rfl];have L:=bT (idx:=-1) G;have h3:=bS (idx:=-1) G;have g5:=qH (fun W f=>HW.out W f d6);have i6:(BC (AX n.toNat r.toNat xs (-1))).length<=60:=wI OP (wI MD G.xl)
  have b8:∀i1∈BC (AX n.toNat r.toNat xs (-1)),i1.length<=8:=fun i1 hs=>by
   obtain⟨i2,_,rfl⟩:=List.mem_map.1 (GF.1 hs).1;have l2:=G.n5;have:=IQ (ok:=fun k6=>!AY (DT i2) (k6:Int)) (l:=i2.2.2.getD r.toNat []) n.toNat
   unfold BP;omega
  obtain⟨FS,f8⟩:=AB (BC (AX n.toNat r.toNat xs (-1)));rw[f8] at g5 L h3 i6 b8|-;obtain⟨P,hP⟩:=AB (DB FS);have f3:=qH (fun W k7 (hu:BT 2 W k7 FS)=>qN hu (by omega) b8);rw[hP] at f3 L h3|-;have i7:=qH (fun W (f:Below w.heap.size w W) (k4:Nat) (hj:k4 < vs.length)=>qE (tn:=tn) (hV.out.keep f) G.tab G.n5 hj);replace L:=qH L;replace b8:=qH b8;clear HG f8 hP HW G d6;go_enter Tryz.func13, Tryz.ntmps13
  go_wp2_with fail
  rw[<-d];replace d:=qH d;refine(HV.out g E).mono ?_;rintro e b ⟨rfl,S⟩;clear Y Z p2 p3 p4 p5 p6 y A p9;obtain⟨R,D⟩:=AF (b.alloc (.cells #[.slice none 0 0,.slice none 0 0] 40));have i':Below b.heap.size b R:=by rw[D];exact(wB _ b).alloc (wC _) _
  have k3:R.heap[b.heap.size]? = some (.cells #[.slice none 0 0,.slice none 0 0] 40):=by rw[D];exact wE _ _
  have d9:=btt S i';obtain⟨⟨Y,Z,p2,p3,p4,p5,p6⟩,y,A,p9⟩:=HK.out R d9;have l':=S.size;go_upto_region 5 with fail
  rw[<-D];replace D:=qH D;go_wp2_with fail
  refine(g5.out R (btt E d9)).mono ?_;rintro e w4 ⟨j,k,rfl,g0,j0⟩;clear Y Z p2 p3 p4 p5 p6 y A p9;have f':=((JP.ofOwX g0).kss (wB _ _) GW.ksc (by omega)).kss;have f2:=qH (f3.out w4 _ f');clear g0 f';go_wp2_with fail
  refine f2.out.mono ?_;rintro e a ⟨u5,rfl,b',j1⟩;have d':=btt j0 j1;have c2:=btt d9 d';have k5:=AN d' k3;have k1:=d'.size;have k0:R.heap.size=b.heap.size+1:=by rw[D.out];simp
  obtain⟨la,lc,j8⟩:=b'.shape;subst j8;have i8:=b'.ks (by omega);obtain⟨pa,pc,C,po,he,h1,c3,-⟩:=i8;injection he with e1 e2 e3;subst e1 e3
  have j6:0 < P.length->C < a.heap.size/\C ≠ b.heap.size:=fun h0=>by
   obtain⟨x2,M⟩:=c3 0 h0;obtain⟨b4,s,hx,-⟩:=L.out (P.getD 0 []) (by rw[AK h0];exact wG h0);rw[hx] at M;have c0:=M.all2.1;refine⟨World.block_lt_of_cell? _ _ c0,fun e=>?_⟩;have:=h1 h0
   subst this;obtain⟨m5,i5,_⟩:=b';obtain⟨l1,J⟩:=EY i5 C rfl;rw[e,k5] at J;injection J with J;injection J with _ J;exact absurd J (by decide)
  have f9:Hid (a.heap[b.heap.size]? = some (.cells #[.slice none 0 0,.slice none 0 0] 40)/\AA 83 2 EI a a.heap.size (.slice none 0 0) 0 (P.take 0)/\AA 83 2 EI a a.heap.size (.slice none 0 0) 0 (EQ vs (P.take 0))/\DN (.slice none 0 0) (.slice none 0 0)):=
   ⟨k5,AA.nil _ _,AA.nil _ _,.inl rfl⟩
  replace c3:=qH c3;have l9:w.heap.size+2<=b.heap.size:=by omega
  have m0:b.heap.size<=a.heap.size:=by omega
  clear k3 k5 f2 b' k1 k0;go_wp2_with fail
  go_loopw [7] (fun iv wr=>∃(q:Nat) (j:Option Addr) (k:Nat) (t:Option Addr) (u:Nat),iv = .int .i64 q/\q<=P.length/\Hid (wr.heap[b.heap.size]? = some (.cells #[.slice j q k,.slice t q u] 40)/\AA 83 2 EI wr a.heap.size (.slice j q k) q (P.take q)/\AA 83 2 EI wr a.heap.size (.slice t q u) q (EQ vs (P.take q))/\DN (.slice j q k) (.slice t q u))/\CG a.heap.size b.heap.size a wr) (fun iv _=>P.length - (intOf iv).toNat)
  case atStart=>exact⟨0,none,0,none,0,rfl,by omega,f9,CG.refl _ _ _⟩
  case round=>
   clear f9;obtain⟨q,j,k,t,u,rfl,hq,hI,H⟩:=hrel;by_cases K:q < P.length
   ·have h5:(q:Int) < (P.length:Int):=(by omega);obtain⟨X,F,T,g6⟩:=hI.out;obtain rfl:=h1 (by omega);obtain⟨h2,h4⟩:=j6 (by omega);obtain⟨x2,M⟩:=c3.out q K;obtain⟨b4,s,hx,l5,j7,l6⟩:=L.out (P.getD q []) (by rw[AK K];exact wG K);have c4:=BY K ([]:List Int);rw[hx] at x2 M c4;obtain⟨c0,f4⟩:=M.all2;have V:∀W,CG a.heap.size b.heap.size a W->W.cell? ⟨C,po+q * 2,none⟩=some (.int .i64 (b4:Int))/\W.cell? ⟨C,po+q * 2+1,none⟩=some (.int .i64 (s:Int)):=fun W c=>⟨c.cell (p:=⟨C,po+q * 2,none⟩) h2 h4 c0,c.cell (p:=⟨C,po+q * 2+1,none⟩) h2 h4 f4⟩
    have c1:∀W,CG a.heap.size b.heap.size a W->W.cell? ⟨w.heap.size,7,none⟩=some (.int .i64 tn)/\W.cell? ⟨w.heap.size,8,none⟩=some (.slice va vs.length vc):=fun W c=>by
     obtain⟨-,y,A,-⟩:=HK.out a c2;exact⟨c.cell (p:=⟨w.heap.size,7,none⟩) (by show w.heap.size < _;omega) (by show w.heap.size ≠ _;omega) y,c.cell (p:=⟨w.heap.size,8,none⟩) (by show w.heap.size < _;omega) (by show w.heap.size ≠ _;omega) A⟩
    have b7:∀W,CG a.heap.size b.heap.size a W->Calls Tryz.prog 59 #[.agg #[.int .i64 tn,.slice va vs.length vc],.int .i64 (s:Int)] W fun e w'=>e = .returned (.int .i64 (FQ vs s))/\Below W.heap.size W w':=fun W c=>i7.out W ((btt E c2).trans (c.2.1.mono (by omega))) s j7;have h6:a.heap.size<=wr.heap.size:=H.1;replace c4:=qH c4;replace V:=qH V;replace c1:=qH c1;replace b7:=qH b7;clear x2 M c0 f4 hI;go_upto_region 9 with fail
    refine rT (b1:=w.heap.size) (b5:=b.heap.size) (B:=a.heap.size) (cl:=(b4:Int)) (lj:=(s:Int)) X F T g6.symm (fun W c=>V.out W (H.trans c)) (by omega) K h5 h6 (by omega) ?_;rintro y6 y7 y9 W9 ⟨N,-,-,-,O,Q,-⟩ - - -;obtain⟨⟨a',c9,rfl⟩,f7,g4,g8⟩:=O rfl;have k9:=Q rfl;have I:=H.trans N;have h7:a.heap.size<=W9.heap.size:=I.1;clear X F T g6 N O Q H h6;go_upto_region 10 with fail
    refine rS (b1:=w.heap.size) (b5:=b.heap.size) (B:=a.heap.size) (cl:=(b4:Int)) (lj:=(s:Int)) (ip:=FQ vs s) (tn:=tn) k9 g4 f7 g8.symm (fun W c=>V.out W (I.trans c)) (fun W c=>c1.out W (I.trans c)) (fun W c=>b7.out W (I.trans c)) (by omega) K h5 h7 (by omega) ?_;rintro m6 m7 m8 d0 ⟨N,-,-,-,O,Q,-⟩ - - -;obtain⟨⟨a9,b2,rfl⟩,g2,f5,g7⟩:=O rfl;have h8:=Q rfl;have j3:=I.trans N
    have hN:Hid (d0.heap[b.heap.size]? = some (.cells #[.slice a' (q+1) c9,.slice a9 (q+1) b2] 40)/\AA 83 2 EI d0 a.heap.size (.slice a' (q+1) c9) (q+1) (P.take (q+1))/\AA 83 2 EI d0 a.heap.size (.slice a9 (q+1) b2) (q+1) (EQ vs (P.take (q+1)))/\DN (.slice a' (q+1) c9) (.slice a9 (q+1) b2)):=by
     show _/\_;rw[c4.out,bN];exact⟨h8,f5,g2,g7⟩
    clear k9 g4 f7 g8 N O Q I h7 h8 g2 f5 g7 V c1 b7;go_wp2_with fail
    go_roundw
    case rel=>exact⟨q+1,a',c9,a9,b2,by go_num,by omega,hN,j3⟩
    case measure=>simp[intOf];omega
   ·obtain rfl:q=P.length:=(by omega);obtain⟨X,F,T,-⟩:=hI.out;rw[List.take_length] at F T;have m:wr.heap[w.heap.size+1]? = some (.cells #[.slice none 0 0,.slice none 0 0] 40):=(H.2.2 _ (by omega) (by omega)).trans (AN c2 g'.out);have j2:Below w.heap.size w wr:=(btt E c2).trans (H.2.1.mono (by omega));obtain⟨z0,z1⟩:=BA X;obtain⟨y0,y1⟩:=BA m;have fz:=BG m;obtain⟨x,hX,U⟩:=QZ m (.slice j P.length k) (.slice t P.length u);have f6:=(F.other (EI.stab _) (by decide) hX).ks (by omega);have g3:=(T.other (EI.stab _) (by decide) hX).ks (by omega);have e0:=U w.heap.size w (Nat.le_succ _) j2;have e4:(EQ vs P).length=P.length:=(by unfold EQ;rw[List.length_map]);have j9:Hid (GC ((wr.setCell ⟨w.heap.size+1,0,none⟩ (.slice j P.length k)).setCell ⟨w.heap.size+1,1,none⟩ (.slice t P.length u)) (.agg #[.slice j P.length k,.slice t P.length u]) P (EQ vs P)):=⟨j,k,t,u,by rw[e4],f6,by rw[e4];exact g3⟩;replace x:=qH x;clear F T hI f6 g3 hX U X m e4;go_wp2;exact⟨rfl,_,QV rfl _ _ _ rfl rfl x.out,_,rfl,j9.out,e0⟩
 ·rw[if_neg z,if_neg z];have l3:(c6 == 0)=false:=by simpa using z
  have l4:(c6 != 0)=true:=by simpa using z
  replace z:=qH z;clear HG HW;go_enter Tryz.func13, Tryz.ntmps13
  go_wp2_with fail
  rw[<-d];replace d:=qH d;refine(HV.out g E).mono ?_;rintro e b ⟨rfl,S⟩;clear Y Z p2 p3 p4 p5 p6 y A p9;have m:=AN S g'.out;obtain⟨y0,y1⟩:=BA m;have fz:=BG m;obtain⟨x,-,U⟩:=QZ m (.slice none 0 0) (.slice none 0 0);have e0:=U w.heap.size w (Nat.le_succ _) (btt E S);replace x:=qH x;clear m U;go_wp2;exact⟨rfl,_,QV rfl _ _ _ rfl rfl x.out,_,rfl,⟨none,0,none,0,rfl,AA.ksNil _,AA.ksNil _⟩,e0⟩
end Go.Proofs.YtcnedkkcgdkioaaGreat
