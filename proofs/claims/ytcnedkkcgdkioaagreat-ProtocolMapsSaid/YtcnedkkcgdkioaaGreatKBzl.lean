/- Texts of this claim, put together: PT0 PT PU PV. -/
import Derived.Test.YtcnedkkcgdkioaaGreatKBzk

set_option maxRecDepth 100000
set_option maxHeartbeats 12800000
namespace Go.Proofs.YtcnedkkcgdkioaaGreat
open Go.RowKit
def QK (p:Int):List Int:=[2,p,3,0,0,0,0,0]
theorem YC (p:Int) (w:World):Calls Tryz.prog 104 #[.int .i64 p] w fun e w'=>e = .returned (.agg #[.int .i64 2,.int .i64 p,.int .i64 3,.int .i64 0,.int .i64 0,.int .i64 0,.int .i64 0,.int .i64 0])/\Below w.heap.size w w':=by
 obtain⟨W,h⟩:=AF (w.alloc (.cells #[.int .i64 2,.int .i64 p,.int .i64 3,.int .i64 0,.int .i64 0,.int .i64 0,.int .i64 0,.int .i64 0] 178));have b:Below w.heap.size w W:=by rw[h];exact(wB _ w).alloc (wC _) _
 have k:W.heap[w.heap.size]? = some (.cells #[.int .i64 2,.int .i64 p,.int .i64 3,.int .i64 0,.int .i64 0,.int .i64 0,.int .i64 0,.int .i64 0] 178):=by rw[h];exact wE _ _
 obtain⟨z,a,c,d,f,g,i,j⟩:=box8' k;clear k;go_enter Tryz.func104, Tryz.ntmps104
 go_wp2;rw[<-h];replace h:=qH h;refine bodyPost_ret (v:=.agg #[.int .i64 2,.int .i64 p,.int .i64 3,.int .i64 0,.int .i64 0,.int .i64 0,.int .i64 0,.int .i64 0]) (by simp[results,Tryz.results104,go_sem,z,a,c,d,f,g,i,j]) rfl ?_;exact⟨rfl,b⟩
def aX:List Oper:=[⟨some 13,.load 24 (.tmp 1),24,"law.go:25",#[],none⟩,⟨some 14,.move (.tmp 2),179,"law.go:25",#[],none⟩,⟨some 15,.call { callee:=.value (.tmp 14),args:=#[.const (.int .i64 1)],argTypes:=#[3] },178,"law.go:25",#[⟨1,.data⟩],none⟩,⟨some 16,.move (.tmp 2),179,"law.go:25",#[],none⟩,⟨some 17,.call { callee:=.value (.tmp 16),args:=#[.const (.int .i64 3)],argTypes:=#[3] },178,"law.go:25",#[⟨3,.data⟩,⟨2,.chain⟩],none⟩,⟨some 18,.buildSlice 180 2 #[(0,.tmp 15),(1,.tmp 17)],180,"law.go:25",#[⟨2,.data⟩,⟨4,.data⟩],none⟩,⟨some 19,.buildSlice 25 1 #[(0,.tmp 18)],25,"law.go:25",#[⟨5,.data⟩],none⟩,⟨some 20,.build 27 #[(0,.const (.int .i64 2)),(1,.tmp 19)],27,"law.go:25",#[⟨6,.data⟩],none⟩,⟨some 21,.build 29 #[(0,.tmp 13),(1,.tmp 20),(2,.const (.int .i64 1))],29,"law.go:25",#[⟨0,.data⟩,⟨7,.data⟩],none⟩,⟨none,.store 29 (.tmp 0) (.tmp 21),0,"law.go:25",#[⟨8,.data⟩,⟨4,.chain⟩,⟨0,.phase⟩,⟨1,.phase⟩,⟨2,.phase⟩,⟨3,.phase⟩,⟨4,.phase⟩,⟨5,.phase⟩,⟨6,.phase⟩,⟨7,.phase⟩,⟨8,.phase⟩],none⟩]
theorem rN {w:World}{x3 x4 x5 x6 x7 x8 x9 a0 a1 a2 b3 b4 b5 b6 b7 b8 b9 b' c0:Value}{a':Exit->Act->World->Prop}{p b1 N B:Nat}
  (Q:w.heap[p]? = some (.cells #[.int .i64 0,.int .i64 0,.int .i64 0,.slice none 0 0,.int .i64 0,.slice none 0 0,.int .i64 0] 29)) (k1:w.heap[b1]? = some (.cells #[.int .i64 2,.int .i64 2,.int .i64 1,.slice (some ⟨N,0,none⟩) 2 2] 24)) (c6:B<=p)
  (c8:∀(E x L M _y9:Value) (W:World),(Below B w W/\((fun i=>decide (i < 10)) 9=false->W.heap[p]? = some (.cells #[.int .i64 0,.int .i64 0,.int .i64 0,.slice none 0 0,.int .i64 0,.slice none 0 0,.int .i64 0] 29))/\AE 29 w W/\((fun i=>decide (i < 10)) 5=true->∃g,E = .slice (some ⟨g,0,none⟩) 2 2/\W.heap[g]? = some (.cells #[.int .i64 2,.int .i64 1,.int .i64 3,.int .i64 0,.int .i64 0,.int .i64 0,.int .i64 0,.int .i64 0,.int .i64 2,.int .i64 3,.int .i64 3,.int .i64 0,.int .i64 0,.int .i64 0,.int .i64 0,.int .i64 0] 178))/\((fun i=>decide (i < 10)) 6=true->∃g,x = .slice (some ⟨g,0,none⟩) 1 1/\W.heap[g]? = some (.cells #[E] 180))/\((fun i=>decide (i < 10)) 7=true->L = .agg #[.int .i64 2,x])/\((fun i=>decide (i < 10)) 8=true->M = .agg #[.int .i64 2,.int .i64 2,.int .i64 1,.slice (some ⟨N,0,none⟩) 2 2,.int .i64 2,x,.int .i64 1])/\((fun i=>decide (i < 10)) 9=true->W.heap[p]? = some (.cells #[.int .i64 2,.int .i64 2,.int .i64 1,.slice (some ⟨N,0,none⟩) 2 2,.int .i64 2,x,.int .i64 1] 29))/\w.heap.size<=W.heap.size)->(True)->(True)->(True)->(True)->(True)->a' .normal ⟨#[.pointer (some ⟨p,0,none⟩),.pointer (some ⟨b1,0,none⟩),.func (.func 104) #[] #[],x3,x4,x5,x6,x7,x8,x9,a0,a1,a2,.agg #[.int .i64 2,.int .i64 2,.int .i64 1,.slice (some ⟨N,0,none⟩) 2 2],.func (.func 104) #[] #[],.agg #[.int .i64 2,.int .i64 1,.int .i64 3,.int .i64 0,.int .i64 0,.int .i64 0,.int .i64 0,.int .i64 0],.func (.func 104) #[] #[],.agg #[.int .i64 2,.int .i64 3,.int .i64 3,.int .i64 0,.int .i64 0,.int .i64 0,.int .i64 0,.int .i64 0],E,x,L,M],[]⟩ W) :
  (Code.region 3 aX.toArray true).wp Tryz.prog a' ⟨#[.pointer (some ⟨p,0,none⟩),.pointer (some ⟨b1,0,none⟩),.func (.func 104) #[] #[],x3,x4,x5,x6,x7,x8,x9,a0,a1,a2,b3,b4,b5,b6,b7,b8,b9,b',c0],[]⟩ w:=by
 have S:B<=w.heap.size:=by have:=(wD.1 Q).1;omega
 refine GB (l:=aX) (F:=(fun y=>⟨#[.pointer (some ⟨p,0,none⟩),.pointer (some ⟨b1,0,none⟩),.func (.func 104) #[] #[],x3,x4,x5,x6,x7,x8,x9,a0,a1,a2,y 0,y 1,y 2,y 3,y 4,y 5,y 6,y 7,y 8],[]⟩)) (Φ:=[AI (.agg #[.int .i64 2,.int .i64 2,.int .i64 1,.slice (some ⟨N,0,none⟩) 2 2]),AI (.func (.func 104) #[] #[]),AI (.agg #[.int .i64 2,.int .i64 1,.int .i64 3,.int .i64 0,.int .i64 0,.int .i64 0,.int .i64 0,.int .i64 0]),AI (.func (.func 104) #[] #[]),AI (.agg #[.int .i64 2,.int .i64 3,.int .i64 3,.int .i64 0,.int .i64 0,.int .i64 0,.int .i64 0,.int .i64 0]),CM,CM,CM,CM,CM]) (R:=(fun _ _=>True)) (G:=(fun D y W=>Below B w W/\(D 9=false->W.heap[p]? = some (.cells #[.int .i64 0,.int .i64 0,.int .i64 0,.slice none 0 0,.int .i64 0,.slice none 0 0,.int .i64 0] 29))/\AE 29 w W/\(D 5=true->∃g,(y 5) = .slice (some ⟨g,0,none⟩) 2 2/\W.heap[g]? = some (.cells #[.int .i64 2,.int .i64 1,.int .i64 3,.int .i64 0,.int .i64 0,.int .i64 0,.int .i64 0,.int .i64 0,.int .i64 2,.int .i64 3,.int .i64 3,.int .i64 0,.int .i64 0,.int .i64 0,.int .i64 0,.int .i64 0] 178))/\(D 6=true->∃g,(y 6) = .slice (some ⟨g,0,none⟩) 1 1/\W.heap[g]? = some (.cells #[(y 5)] 180))/\(D 7=true->(y 7) = .agg #[.int .i64 2,(y 6)])/\(D 8=true->(y 8) = .agg #[.int .i64 2,.int .i64 2,.int .i64 1,.slice (some ⟨N,0,none⟩) 2 2,.int .i64 2,(y 6),.int .i64 1])/\(D 9=true->W.heap[p]? = some (.cells #[.int .i64 2,.int .i64 2,.int .i64 1,.slice (some ⟨N,0,none⟩) 2 2,.int .i64 2,(y 6),.int .i64 1] 29))/\w.heap.size<=W.heap.size)) ⟨?s0,?s1,?s2,?s3,?s4,?s5,?s6,?s7,?s8,?s9,trivial⟩ (fun i=>([b3,b4,b5,b6,b7,b8,b9,b',c0,undef]:List Value).getD i undef) (by kernel_rfl) (by kernel_rfl) ⟨sE,sE,sE,sE,sE,fun _ _ _ h _=>h,fun _ _ _ h _=>h,fun _ _ _ h _=>h,fun _ _ _ h _=>h,fun _ _ _ h _=>h,trivial⟩ ?g0 ?gx ?fin
 case s0=>
  refine AL.mk rfl (AD 5 fun E=>AD 6 fun x=>AD 7 fun L=>AD 8 fun M=>fun y D W K _ _ _ a o=>?_);dsimp [AJ] at a|-
  obtain⟨m,n,e,t,u,v,C,H,b⟩:=a;have T:=(e b1 _ _ k1 (by decide)).trans k1;have z0:=AO (j:=0) T rfl;have z1:=AO (j:=1) T rfl;have z2:=AO (j:=2) T rfl;have z3:=AO (j:=3) T rfl;go_simp;exact o _ _ trivial ⟨m,n,e,t,u,v,C,H,b⟩ rfl
 case s1|s3=>
  refine .q0 (CE rfl) (fun _=>trivial) (fun _ _ _ h=>h) (fun _=>rfl) fun y W K o=>?_;go_simp;exact o
 case s2=>
  refine AL.mk rfl (AD 1 fun y1=>AD 5 fun E=>AD 6 fun x=>AD 7 fun L=>AD 8 fun M=>fun y D W K f c d a o=>?_);obtain rfl:=(d.get 1 rfl).2;dsimp [AJ] at a|-
  have A:=c.no (j:=5) (i:=2) rfl (by kernel_rfl) f;have s:=c.no (j:=6) (i:=5) rfl (by kernel_rfl) A;have k:=c.no (j:=7) (i:=6) rfl (by kernel_rfl) s;have z:=c.no (j:=8) (i:=7) rfl (by kernel_rfl) k;have r:=c.no (j:=9) (i:=2) rfl (by kernel_rfl) f;obtain⟨m,n,e,t,u,v,C,H,b⟩:=a;go_simp;refine(YC 1 W).mono ?_;rintro c3 W9 ⟨rfl,O⟩;exact o _ _ trivial ⟨m.trans (O.mono (wI S b)),fun _=>AN O (n r),e.trans (AE.below O),fun h=>(by rw[show AP D 2 5=D 5 from rfl,A] at h;cases h),fun h=>(by rw[show AP D 2 6=D 6 from rfl,s] at h;cases h),fun h=>(by rw[show AP D 2 7=D 7 from rfl,k] at h;cases h),fun h=>(by rw[show AP D 2 8=D 8 from rfl,z] at h;cases h),fun h=>(by rw[show AP D 2 9=D 9 from rfl,r] at h;cases h),wI b O.size⟩ rfl
 case s4=>
  refine AL.mk rfl (AD 3 fun y3=>AD 5 fun E=>AD 6 fun x=>AD 7 fun L=>AD 8 fun M=>fun y D W K f c d a o=>?_);obtain rfl:=(d.get 3 rfl).2;dsimp [AJ] at a|-
  have A:=c.no (j:=5) (i:=4) rfl (by kernel_rfl) f;have s:=c.no (j:=6) (i:=5) rfl (by kernel_rfl) A;have k:=c.no (j:=7) (i:=6) rfl (by kernel_rfl) s;have z:=c.no (j:=8) (i:=7) rfl (by kernel_rfl) k;have r:=c.no (j:=9) (i:=4) rfl (by kernel_rfl) f;obtain⟨m,n,e,t,u,v,C,H,b⟩:=a;go_simp;refine(YC 3 W).mono ?_;rintro c3 W9 ⟨rfl,O⟩;exact o _ _ trivial ⟨m.trans (O.mono (wI S b)),fun _=>AN O (n r),e.trans (AE.below O),fun h=>(by rw[show AP D 4 5=D 5 from rfl,A] at h;cases h),fun h=>(by rw[show AP D 4 6=D 6 from rfl,s] at h;cases h),fun h=>(by rw[show AP D 4 7=D 7 from rfl,k] at h;cases h),fun h=>(by rw[show AP D 4 8=D 8 from rfl,z] at h;cases h),fun h=>(by rw[show AP D 4 9=D 9 from rfl,r] at h;cases h),wI b O.size⟩ rfl
 case s5=>
  refine AL.mk rfl (AD 2 fun y2=>AD 4 fun y4=>AD 5 fun E=>AD 6 fun x=>AD 7 fun L=>AD 8 fun M=>fun y D W K f c d a o=>?_);obtain rfl:=(d.get 2 rfl).2;obtain rfl:=(d.get 4 rfl).2;dsimp [AJ] at a|-
  have s:=c.no (j:=6) (i:=5) rfl (by kernel_rfl) f;have k:=c.no (j:=7) (i:=6) rfl (by kernel_rfl) s;have z:=c.no (j:=8) (i:=7) rfl (by kernel_rfl) k;have r:=c.no (j:=9) (i:=5) rfl (by kernel_rfl) f;obtain⟨m,n,e,t,u,v,C,H,b⟩:=a;have I:Below W.heap.size W (W.alloc (.cells #[.int .i64 2,.int .i64 1,.int .i64 3,.int .i64 0,.int .i64 0,.int .i64 0,.int .i64 0,.int .i64 0,.int .i64 2,.int .i64 3,.int .i64 3,.int .i64 0,.int .i64 0,.int .i64 0,.int .i64 0,.int .i64 0] 178)):=(wB _ W).alloc (wC _) _;go_simp;exact o _ _ trivial ⟨m.trans (I.mono (wI S b)),fun _=>AN I (n r),e.trans (AE.below I),fun _=>⟨_,rfl,wE W _⟩,fun h=>(by rw[show AP D 5 6=D 6 from rfl,s] at h;cases h),fun h=>(by rw[show AP D 5 7=D 7 from rfl,k] at h;cases h),fun h=>(by rw[show AP D 5 8=D 8 from rfl,z] at h;cases h),fun h=>(by rw[show AP D 5 9=D 9 from rfl,r] at h;cases h),wI b I.size⟩ trivial
 case s6=>
  refine AL.mk rfl (AD 5 fun E=>AD 6 fun x=>AD 7 fun L=>AD 8 fun M=>fun y D W K f c d a o=>?_);have A:=(d.get 5 rfl).1;dsimp [AJ] at a|-
  have A:=(d.get 5 rfl).1;have k:=c.no (j:=7) (i:=6) rfl (by kernel_rfl) f;have z:=c.no (j:=8) (i:=7) rfl (by kernel_rfl) k;have r:=c.no (j:=9) (i:=6) rfl (by kernel_rfl) f;obtain⟨m,n,e,t,u,v,C,H,b⟩:=a;obtain⟨g,U,P⟩:=t A;subst U;have I:Below W.heap.size W (W.alloc (.cells #[.slice (some ⟨g,0,none⟩) 2 2] 180)):=(wB _ W).alloc (wC _) _;go_simp;exact o _ _ trivial ⟨m.trans (I.mono (wI S b)),fun _=>AN I (n r),e.trans (AE.below I),fun _=>⟨g,rfl,AN I P⟩,fun _=>⟨_,rfl,wE W _⟩,fun h=>(by rw[show AP D 6 7=D 7 from rfl,k] at h;cases h),fun h=>(by rw[show AP D 6 8=D 8 from rfl,z] at h;cases h),fun h=>(by rw[show AP D 6 9=D 9 from rfl,r] at h;cases h),wI b I.size⟩ trivial
 case s7=>
  refine AL.mk rfl (AD 5 fun E=>AD 6 fun x=>AD 7 fun L=>AD 8 fun M=>fun y D W K f c d a o=>?_);have s:=(d.get 6 rfl).1;dsimp [AJ] at a|-
  have s:=(d.get 6 rfl).1;have z:=c.no (j:=8) (i:=7) rfl (by kernel_rfl) f;have r:=c.no (j:=9) (i:=7) rfl (by kernel_rfl) f;obtain⟨m,n,e,t,u,v,C,H,b⟩:=a;obtain⟨g,V,P⟩:=u s;subst V;go_simp;exact o _ _ trivial ⟨m,n,e,t,fun _=>⟨g,rfl,P⟩,fun _=>rfl,fun h=>(by rw[show AP D 7 8=D 8 from rfl,z] at h;cases h),fun h=>(by rw[show AP D 7 9=D 9 from rfl,r] at h;cases h),b⟩ trivial
 case s8=>
  refine AL.mk rfl (AD 0 fun y0=>AD 5 fun E=>AD 6 fun x=>AD 7 fun L=>AD 8 fun M=>fun y D W K f c d a o=>?_);obtain rfl:=(d.get 0 rfl).2;have k:=(d.get 7 rfl).1;dsimp [AJ] at a|-
  have k:=(d.get 7 rfl).1;have r:=c.no (j:=9) (i:=8) rfl (by kernel_rfl) f;obtain⟨m,n,e,t,u,v,C,H,b⟩:=a;obtain X:=v k;subst X;go_simp;exact o _ _ trivial ⟨m,n,e,t,u,v,fun _=>rfl,fun h=>(by rw[show AP D 8 9=D 9 from rfl,r] at h;cases h),b⟩ trivial
 case s9=>
  refine AL.mk rfl (AD 5 fun E=>AD 6 fun x=>AD 7 fun L=>AD 8 fun M=>fun y D W K f _ d a o=>?_);have z:=(d.get 8 rfl).1;have A:=(d.get 5 rfl).1;have s:=(d.get 6 rfl).1;have k:=(d.get 7 rfl).1;dsimp [AJ] at a|-
  have z:=(d.get 8 rfl).1;have A:=(d.get 5 rfl).1;have s:=(d.get 6 rfl).1;have k:=(d.get 7 rfl).1;obtain⟨m,n,e,t,u,v,C,H,b⟩:=a;have e8:=C z;obtain⟨g,V,P⟩:=u s;have X:=v k;subst V;subst e8;subst X;obtain⟨g',U,b0⟩:=t A;subst U;have Q:=n f;obtain⟨z0,z1,z2,z3,z4,z5,z6⟩:=box7' Q;have fz:=BG Q;obtain⟨WF,Y⟩:=AF (((((((W.setCell ⟨p,0,none⟩ (.int .i64 2)).setCell ⟨p,1,none⟩ (.int .i64 2)).setCell ⟨p,2,none⟩ (.int .i64 1)).setCell ⟨p,3,none⟩ (.slice (some ⟨N,0,none⟩) 2 2)).setCell ⟨p,4,none⟩ (.int .i64 2)).setCell ⟨p,5,none⟩ (.slice (some ⟨g,0,none⟩) 1 1)).setCell ⟨p,6,none⟩ (.int .i64 1));obtain⟨kf,Z,c7⟩:=dC Q (.int .i64 2) (.int .i64 2) (.int .i64 1) (.slice (some ⟨N,0,none⟩) 2 2) (.int .i64 2) (.slice (some ⟨g,0,none⟩) 1 1) (.int .i64 1) Y;have d0:WF.heap.size=W.heap.size:=by rw[Y];simp
  have c9:=(Z _ _ _ P (by decide)).trans P;have c':=(Z _ _ _ b0 (by decide)).trans b0;go_simp;rw[<-Y];exact o undef _ trivial ⟨c7 _ _ m c6,fun h=>(by cases h),e.trans Z,fun _=>⟨g',rfl,c'⟩,fun _=>⟨g,rfl,c9⟩,fun _=>rfl,fun _=>rfl,fun _=>kf,by rw[d0];exact b⟩ trivial
 case g0=>exact⟨(wH (wB _ w) 1).mono S,fun _=>Q,AE.below (wH (wB _ w) 1),fun h=>(by cases h),fun h=>(by cases h),fun h=>(by cases h),fun h=>(by cases h),fun h=>(by cases h),wC _⟩
 case gx=>exact fun D D' y W h ⟨m,n,e,t,u,v,C,H,b⟩=>⟨m,fun q=>n ((h 9 (by decide)).trans q),e,fun q=>t ((h 5 (by decide)).trans q),fun q=>u ((h 6 (by decide)).trans q),fun q=>v ((h 7 (by decide)).trans q),fun q=>C ((h 8 (by decide)).trans q),fun q=>H ((h 9 (by decide)).trans q),b⟩
 case fin=>
  intro y W a J;try dsimp only
  rw[(AG J 0:y 0=_),(AG J 1:y 1=_),(AG J 2:y 2=_),(AG J 3:y 3=_),(AG J 4:y 4=_)];exact c8 (y 5) (y 6) (y 7) (y 8) (y 9) W a (AG J 5) (AG J 6) (AG J 7) (AG J 8) (AG J 9)
def MQ (w:World) (os:List Obj):World:=os.foldl World.alloc w
theorem fR:∀(os:List Obj) (w:World),(MQ w os).heap.size=w.heap.size+os.length
 | [],w=>rfl
 | o::os,w=>by
  have:=fR os (w.alloc o)
  unfold MQ at this|-;rw[List.foldl_cons,this,World.size_alloc,List.length_cons];omega
theorem RW:∀(os:List Obj) (w:World),Below w.heap.size w (MQ w os)
 | [],w=>wB _ _
 | o::os,w=>by
  have h:=RW os (w.alloc o);have a:Below w.heap.size w (w.alloc o):=(wB _ w).alloc (wC _) _;exact btt a h
theorem WH:∀(os:List Obj) (w:World) (i:Nat) (o:Obj),os[i]? = some o->(MQ w os).heap[w.heap.size+i]? = some o
 | [],w,i,o,h=>by simp at h
 | p::os,w,0,o,h=>by
  simp only[List.getElem?_cons_zero,Option.some.injEq] at h;subst h;exact AN (RW os (w.alloc p)) (wE w p)
 | p::os,w,i+1,o,h=>by
  have:=WH os (w.alloc p) i o (by simpa using h)
  rw[World.size_alloc] at this;rw[show w.heap.size+(i+1)=w.heap.size+1+i by omega];exact this
def DR:List Cs:=[([0,0],[[0,0]],[]),([0,1],[[0,0]],[])]
def EH:Jc:=[[QK 1,QK 3]]
theorem ON {w:World}{b:Nat}{x y:Int}(h:w.heap[b]? = some (.cells #[.int .i64 x,.int .i64 y] 3)):AR w (.slice (some ⟨b,0,none⟩) 2 2) [x,y]:=by
 refine⟨_,_,b,0,rfl,fun _=>rfl,fun j a=>?_,by simp⟩;match j,a with
 | 0,_=>exact AO h rfl
 | 1,_=>exact AO h rfl
theorem ZO {w:World}{b:Nat}{v:Value}{x:List Int}(h:w.heap[b]? = some (.cells #[v] 48)) (c:AR w v x):BM w (.slice (some ⟨b,0,none⟩) 1 1) [x]:=by
 refine⟨_,_,b,0,rfl,fun _=>rfl,fun j a=>?_,by simp⟩;match j,a with
 | 0,_=>exact⟨_,wJ h,c⟩
theorem jO (w:World):Calls Tryz.prog 52 #[] w fun e w'=>∃v,e = .returned v/\ED w' v 2 2 1 DR 2 EH 1/\Below w.heap.size w w':=by
 obtain⟨a4,hB⟩:=AF (w.heap.size)
 obtain⟨d,s⟩:∃d:List Obj,d = [.cells #[.int .i64 0,.int .i64 0,.int .i64 0,.slice none 0 0,.int .i64 0,.slice none 0 0,.int .i64 0] 29,
  .cells #[.int .i64 0,.int .i64 0] 3,.cells #[.int .i64 0,.int .i64 0] 3,.cells #[.slice (some ⟨w.heap.size+1+1,0,none⟩) 2 2] 48,
  .cells #[.int .i64 0,.int .i64 1] 3,.cells #[.int .i64 0,.int .i64 0] 3,.cells #[.slice (some ⟨w.heap.size+1+1+1+1+1,0,none⟩) 2 2] 48,
  .cells #[.slice (some ⟨w.heap.size+1,0,none⟩) 2 2,.slice (some ⟨w.heap.size+1+1+1,0,none⟩) 1 1,.slice none 0 0,.slice (some ⟨w.heap.size+1+1+1+1,0,none⟩) 2 2,.slice (some ⟨w.heap.size+1+1+1+1+1+1,0,none⟩) 1 1,.slice none 0 0] 95,
  .cells #[.int .i64 2,.int .i64 2,.int .i64 1,.slice (some ⟨w.heap.size+1+1+1+1+1+1+1,0,none⟩) 2 2] 24]:=⟨_,rfl⟩
 obtain⟨a,b⟩:=AF (MQ w d);have t:∀i o,d[i]? = some o->a.heap[w.heap.size+i]? = some o:=fun i o h=>by rw[b];exact WH d w i o h
 have U:Below w.heap.size w a:=by rw[b];exact RW d w
 have F:a.heap[w.heap.size]? = _:=t 0 _ (by rw[s];rfl);have l:a.heap[w.heap.size+1]? = _:=t 1 _ (by rw[s];rfl);have m:a.heap[w.heap.size+1+1]? = _:=t 2 _ (by rw[s];rfl);have p:a.heap[w.heap.size+1+1+1]? = _:=t 3 _ (by rw[s];rfl);have r:a.heap[w.heap.size+1+1+1+1]? = _:=t 4 _ (by rw[s];rfl);have u:a.heap[w.heap.size+1+1+1+1+1]? = _:=t 5 _ (by rw[s];rfl);have x:a.heap[w.heap.size+1+1+1+1+1+1]? = _:=t 6 _ (by rw[s];rfl);have y:a.heap[w.heap.size+1+1+1+1+1+1+1]? = _:=t 7 _ (by rw[s];rfl);have H:a.heap[w.heap.size+1+1+1+1+1+1+1+1]? = _:=t 8 _ (by rw[s];rfl);rw[s] at b;simp only[MQ,List.foldl_cons,List.foldl_nil] at b;clear t s;go_enter Tryz.func52, Tryz.ntmps52
 go_upto_region 3 with fail
 rw[<-b];replace b:=qH b;refine rN (B:=w.heap.size) F H (wC _) ?_;rintro y5 y6 y7 y8 y9 W ⟨R,-,g,G,A,-,-,C,-⟩ - - - - -;obtain⟨D,rfl,q⟩:=G rfl;obtain⟨f,rfl,Q⟩:=A rfl;have P:=C rfl;have I:=(g _ _ _ l (by decide)).trans l;have J:=(g _ _ _ m (by decide)).trans m;have K:=(g _ _ _ p (by decide)).trans p;have L:=(g _ _ _ r (by decide)).trans r;have N:=(g _ _ _ u (by decide)).trans u;have O:=(g _ _ _ x (by decide)).trans x;have n:=(g _ _ _ y (by decide)).trans y;have z:BM W (.slice none 0 0) []:=⟨_,_,0,0,rfl,fun h=>absurd h (Nat.lt_irrefl 0),fun j c=>absurd c (Nat.not_lt_zero j),Nat.zero_le _⟩
 have E:HZ W (.slice (some ⟨w.heap.size+1+1+1+1+1+1+1,0,none⟩) 2 2) DR:=⟨_,_,_,0,rfl,fun _=>rfl,fun j c=>by
  match j,c with
  | 0,_=>exact⟨_,_,_,AO n rfl,AO n rfl,AO n rfl,ON I,ZO K (ON J),z⟩
  | 1,_=>exact⟨_,_,_,AO n rfl,AO n rfl,AO n rfl,ON L,ZO O (ON N),z⟩,show 2<=1954687338268 by decide⟩
 have M:KS 8 W (.slice (some ⟨D,0,none⟩) 2 2) [QK 1,QK 3]:=⟨_,_,D,0,rfl,fun _=>rfl,fun j c=>by
  match j,c with
  | 0,_=>exact⟨rfl,fun i k=>by
    match i,k with
    | 0,_=>exact AO q rfl
    | 1,_=>exact AO q rfl
    | 2,_=>exact AO q rfl
    | 3,_=>exact AO q rfl
    | 4,_=>exact AO q rfl
    | 5,_=>exact AO q rfl
    | 6,_=>exact AO q rfl
    | 7,_=>exact AO q rfl⟩
  | 1,_=>exact⟨rfl,fun i k=>by
    match i,k with
    | 0,_=>exact AO q rfl
    | 1,_=>exact AO q rfl
    | 2,_=>exact AO q rfl
    | 3,_=>exact AO q rfl
    | 4,_=>exact AO q rfl
    | 5,_=>exact AO q rfl
    | 6,_=>exact AO q rfl
    | 7,_=>exact AO q rfl⟩,show 2<=2199023255552 by decide⟩
 have S:BT 8 W (.slice (some ⟨f,0,none⟩) 1 1) EH:=⟨_,_,f,0,rfl,fun _=>rfl,fun j c=>by
  match j,c with
  | 0,_=>exact⟨_,wJ Q,M⟩,show 1<=5864062014805 by decide⟩
 have T:Hid (ED W (.agg #[.int .i64 2,.int .i64 2,.int .i64 1,.slice (some ⟨w.heap.size+1+1+1+1+1+1+1,0,none⟩) 2 2,.int .i64 2,.slice (some ⟨f,0,none⟩) 1 1,.int .i64 1]) 2 2 1 DR 2 EH 1):=
  ⟨_,_,_,_,rfl,⟨_,rfl,E⟩,⟨_,rfl,S⟩⟩
 obtain⟨X,Y,Z,z3,z4,z5,z6⟩:=box7' P;have V:=U.trans R;clear F l m p r u x y H I J K L N O n q Q P E M S z G A C g;go_wp2;refine bodyPost_ret (v:=.agg #[.int .i64 2,.int .i64 2,.int .i64 1,.slice (some ⟨w.heap.size+1+1+1+1+1+1+1,0,none⟩) 2 2,.int .i64 2,.slice (some ⟨f,0,none⟩) 1 1,.int .i64 1]) (by simp[results,Tryz.results52,go_sem,X,Y,Z,z3,z4,z5,z6]) rfl ?_;exact⟨_,rfl,T.out,V⟩
theorem MA (p q:Int) (w:World):Calls Tryz.prog 54 #[.int .i64 p,.int .i64 q] w fun e w'=>∃b,e = .returned (.slice (some ⟨b,0,none⟩) 2 2)/\KS 2 w' (.slice (some ⟨b,0,none⟩) 2 2) [[0,p],[1,q]]/\Below w.heap.size w w':=by
 have k:=wE w (.cells #[.int .i64 0,.int .i64 p,.int .i64 1,.int .i64 q] 83)
 have K:Hid (KS 2 (w.alloc (.cells #[.int .i64 0,.int .i64 p,.int .i64 1,.int .i64 q] 83)) (.slice (some ⟨w.heap.size,0,none⟩) 2 2) [[0,p],[1,q]]):=⟨_,_,w.heap.size,0,rfl,fun _=>rfl,fun j c=>by
  match j,c with
  | 0,_=>exact⟨rfl,fun i h=>by
    match i,h with
    | 0,_=>exact AO k rfl
    | 1,_=>exact AO k rfl⟩
  | 1,_=>exact⟨rfl,fun i h=>by
    match i,h with
    | 0,_=>exact AO k rfl
    | 1,_=>exact AO k rfl⟩,show 2<=2199023255552 by decide⟩
 have a:Below w.heap.size w (w.alloc (.cells #[.int .i64 0,.int .i64 p,.int .i64 1,.int .i64 q] 83)):=(wB _ w).alloc (wC _) _;clear k;go_enter Tryz.func54, Tryz.ntmps54
 go_wp2;go_ret;exact⟨_,rfl,K.out,a⟩
theorem uC (w:World) (a b c d:Value) (t:TypeId):∃W,W=(w.alloc (.cells #[a,b] t)).alloc (.cells #[c,d] t)/\Below w.heap.size w W/\W.heap[w.heap.size]? = some (.cells #[a,b] t)/\W.heap[w.heap.size+1]? = some (.cells #[c,d] t):=by
 refine⟨_,rfl,((wB _ w).alloc (wC _) _).alloc (by simp) _,(Below.heap_alloc _ _ _ (by simp)).trans (wE w _),?_⟩;have:=wE (w.alloc (.cells #[a,b] t)) (.cells #[c,d] t)
 rwa [World.size_alloc] at this
theorem cL {w:World}{u v:Value}{P Q c b:Jb}(h:GC w u P Q) (k:GC w v c b) :
  Calls Tryz.prog 14 #[u,v] w fun e w'=>e = .returned (.bool (decide (P=c) && decide (Q=b)))/\Below w.heap.size w w':=by
 obtain⟨fa,fc,ta,tc,rfl,h1,h2⟩:=h;obtain⟨ga,gc,sa,sc,rfl,h3,h4⟩:=k;obtain⟨o,W,j,kA,kB⟩:=uC w (.slice fa P.length fc) (.slice ta Q.length tc) (.slice ga c.length gc) (.slice sa b.length sc) 40;have H:=qH (And.intro (BA kA) (BA kB));obtain⟨⟨L,M⟩,I,K⟩:=H.out;rw[W] at L M I K;have N:=h1.keep j;have c2:=h2.keep j;have c3:=h3.keep j;have c4:=h4.keep j;obtain⟨B,f⟩:∃B,(decide (P=c) && decide (Q=b))=B:=⟨_,rfl⟩;rw[f];clear kA kB h1 h2 h3 h4;by_cases l:P.length=c.length
 ·by_cases g:Q.length=b.length
  ·obtain⟨d4,d6,fb,fo,a,b8,S,e1⟩:=N;injection a with a _ e3;subst a e3;obtain⟨e9,f0,tb,f1,a,c6,X,e4⟩:=c2;injection a with a _ e3;subst a e3;obtain⟨d8,d',gb,e0,a,b9,T,-⟩:=c3;injection a with a _ e3;subst a e3;obtain⟨e5,e7,sb,e8,a,c5,U,-⟩:=c4;injection a with a _ e3;subst a e3;rw[<-l,<-g] at H;rw[<-l] at I W;rw[<-g] at K W;replace S:=qH S;replace X:=qH X;replace T:=qH T;replace U:=qH U;have Y:Hid (P.take 0=c.take 0):=rfl;have Z:Hid (Q.take 0=b.take 0):=rfl;rw[<-l,<-g];replace l:=qH l;replace g:=qH g;replace f:=qH f;go_enter Tryz.func14, Tryz.ntmps14
   go_wp2_with fail
   rw[<-W];replace W:=qH W;clear L M I K;go_loopw [5] (fun C wr=>∃i:Nat,C = .int .i64 i/\i<=P.length/\Hid (P.take i=c.take i)/\Qt o wr) (fun C _=>P.length - (intOf C).toNat)
   case atStart=>exact⟨0,rfl,by omega,Y,Qt.refl _⟩
   case round=>
    clear Y;obtain⟨i,rfl,hi,t,n,rfl⟩:=hrel;obtain⟨⟨L,M⟩,I,K⟩:=H.out;by_cases m:i < P.length
    ·obtain rfl:=b8 (by omega);obtain rfl:=b9 (by rw[<-l.out];omega);have c1:(i:Int) < (P.length:Int):=(by omega);have J:i < c.length:=(by rw[<-l.out];exact m);obtain⟨r,s⟩:=S.out i m;obtain⟨z,A⟩:=T.out i J;obtain⟨d2,x⟩:=AB (P.getD i []);obtain⟨d3,y⟩:=AB (c.getD i []);rw[x] at r s;rw[y] at z A;obtain⟨D,E,rfl⟩:=BZ r;obtain⟨F,G,rfl⟩:=BZ z;obtain⟨c0,N⟩:=s.all2;obtain⟨d0,d1⟩:=A.all2;clear s A r z;by_cases d : [D,E] = [F,G]
     ·have O:BI [D,E] [F,G]=true:=FN.2 d;have V:Hid (P.take (i+1)=c.take (i+1)):=GA t.out m J (by rw[x,y,d]);clear x y d t;go_wp2;go_quiet (fail)
      go_wp2;go_roundw
      case rel=>exact⟨i+1,by go_num,m,V,by first|exact(Qt.mk' o n).step nq|exact Qt.mk' o _⟩
      case measure=>simp[intOf];omega
     ·have O:BI [D,E] [F,G]=false:=FL.2 d
      have q:Hid (B=false):=by
       show _=_;rw[<-f.out,vY (fun h=>d (by rw[<-x,<-y,h]))];rfl
      clear x y d t;go_wp2;go_quiet (fail)
      go_wp2;go_ret;exact⟨by rw[q.out];rfl,btt j (wH (wH (wB _ _) _) _)⟩
    ·have R:P=c:=FZ t.out (by omega) (by rw[<-l.out];omega);obtain rfl:i=P.length:=(by omega);clear t;replace R:=qH R;go_wp2_with fail
     go_loopw [6] (fun C wr=>∃i:Nat,C = .int .i64 i/\i<=Q.length/\Hid (Q.take i=b.take i)/\Qt o wr) (fun C _=>Q.length - (intOf C).toNat)
     case atStart=>exact⟨0,rfl,by omega,Z,Qt.mk' o n⟩
     case round=>
      clear Z;obtain⟨i,rfl,hi,t,n,rfl⟩:=hrel;obtain⟨⟨L,M⟩,I,K⟩:=H.out;by_cases m:i < Q.length
      ·obtain rfl:=c6 (by omega);obtain rfl:=c5 (by rw[<-g.out];omega);have c1:(i:Int) < (Q.length:Int):=(by omega);have J:i < b.length:=(by rw[<-g.out];exact m);obtain⟨r,s⟩:=X.out i m;obtain⟨z,A⟩:=U.out i J;obtain⟨d2,x⟩:=AB (Q.getD i []);obtain⟨d3,y⟩:=AB (b.getD i []);rw[x] at r s;rw[y] at z A;obtain⟨D,E,rfl⟩:=BZ r;obtain⟨F,G,rfl⟩:=BZ z;obtain⟨c0,N⟩:=s.all2;obtain⟨d0,d1⟩:=A.all2;clear s A r z;by_cases d : [D,E] = [F,G]
       ·have O:BI [D,E] [F,G]=true:=FN.2 d;have V:Hid (Q.take (i+1)=b.take (i+1)):=GA t.out m J (by rw[x,y,d]);clear x y d t;go_wp2;go_quiet (fail)
        go_wp2;go_roundw
        case rel=>exact⟨i+1,by go_num,m,V,by first|exact(Qt.mk' o n).step nq|exact Qt.mk' o _⟩
        case measure=>simp[intOf];omega
       ·have O:BI [D,E] [F,G]=false:=FL.2 d
        have q:Hid (B=false):=by
         show _=_;rw[<-f.out,vY (p:=Q=b) (fun h=>d (by rw[<-x,<-y,h])),Bool.and_false]
        clear x y d t;go_wp2;go_quiet (fail)
        go_wp2;go_ret;exact⟨by rw[q.out];rfl,btt j (wH (wH (wB _ _) _) _)⟩
      ·have a4:Q=b:=FZ t.out (by omega) (by rw[<-g.out];omega);obtain rfl:i=Q.length:=(by omega);have b7:Hid (B=true):=(by show _=_;rw[<-f.out,vZ R.out,vZ a4];rfl);clear t a4;go_wp2;go_ret;exact⟨by rw[b7.out];rfl,btt j (wH (wB _ _) _)⟩
  ·have q:B=false:=(by rw[<-f,vY (p:=Q=b) (fun h=>g (by rw[h])),Bool.and_false]);subst q;have e2:((Q.length:Int) == (b.length:Int))=false:=beq_eq_false_iff_ne.2 (by omega);rw[<-l] at I W;rw[<-l];replace l:=qH l;replace g:=qH g;replace f:=qH f;clear H;go_enter Tryz.func14, Tryz.ntmps14
   go_wp2;go_ret;rw[<-W];exact⟨rfl,j⟩
 ·have q:B=false:=by rw[<-f,vY (p:=P=c) (fun h=>l (by rw[h]))];rfl
  subst q;have e2:((P.length:Int) == (c.length:Int))=false:=beq_eq_false_iff_ne.2 (by omega);replace l:=qH l;replace f:=qH f;clear H;go_enter Tryz.func14, Tryz.ntmps14
  go_wp2;go_ret;rw[<-W];exact⟨rfl,j⟩
end Go.Proofs.YtcnedkkcgdkioaaGreat
namespace Go.Proofs.YtcnedkkcgdkioaaGreat
def FP:Jb:=(CR 2 DR (wL EH 1 0)).1
def DY:List Ex:=(CR 2 DR (wL EH 1 0)).2
def EF (a b:Int):Jb:=[[0,a],[1,b]]
def JE:Jc:=[EF 2 3,EF 2 6,EF 4 3,EF 7 6]
def JY:Jc:=[EF 2 3,EF 4 3]
def JZ:Jb:=[[0,2],[0,4],[0,7],[1,3],[1,6]]
def KO:Jb:=[[0,0],[0,0],[0,0],[1,0],[1,1]]
theorem OK:DH 2 2 1 DR 2 EH 1=true:=by decide +kernel
theorem YB:FD 2 2 1 DR 2 EH 1=0:=by decide +kernel
theorem LS:AZ 2 2 1 DR 2 EH 1 2 FP DY=0:=by
 unfold AZ;rw[if_neg (fun h=>h YB),if_pos ⟨rfl,rfl,rfl⟩]
theorem SR:BC (AX 2 1 DY (-1))=JE:=by decide +kernel
theorem jH:BC (AX 2 1 DY 0)=JY:=by decide +kernel
theorem YD:DB JE=JZ:=by decide +kernel
theorem jI:EQ FP JZ=KO:=by decide +kernel
theorem jF:CS 2 1 DY [[0,2]] 2 = [0,1]:=by decide +kernel
theorem jG:CS 2 1 DY (EF 4 3) 2 = [0]:=by decide +kernel
theorem jD:CX [[0,2]]=0:=by decide +kernel
theorem jE:CX (EF 4 3)=0:=by decide +kernel
end Go.Proofs.YtcnedkkcgdkioaaGreat
