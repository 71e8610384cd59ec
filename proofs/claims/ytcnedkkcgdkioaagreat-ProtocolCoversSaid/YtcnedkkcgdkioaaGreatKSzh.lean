/- Texts of this claim, put together: PT0 PT PU PV. -/
import Derived.Test.YtcnedkkcgdkioaaGreatKSzg

set_option maxRecDepth 100000
set_option maxHeartbeats 12800000
namespace Go.Proofs.YtcnedkkcgdkioaaGreat
open Go.RowKit
def mvE (p:Int):List Int:=[2,p,3,0,0,0,0,0]
theorem exMoveC (p:Int) (w:World):Calls Tryz.prog 104 #[.int .i64 p] w fun e w'=>e = .returned (.agg #[.int .i64 2,.int .i64 p,.int .i64 3,.int .i64 0,.int .i64 0,.int .i64 0,.int .i64 0,.int .i64 0])/\Below w.heap.size w w':=by
 obtain⟨W1,hW1⟩:=exF (w.alloc (.cells #[.int .i64 2,.int .i64 p,.int .i64 3,.int .i64 0,.int .i64 0,.int .i64 0,.int .i64 0,.int .i64 0] 178));have hb1:Below w.heap.size w W1:=by rw[hW1];exact(Below.refl _ w).alloc (Nat.le_refl _) _
 have k1:W1.heap[w.heap.size]? = some (.cells #[.int .i64 2,.int .i64 p,.int .i64 3,.int .i64 0,.int .i64 0,.int .i64 0,.int .i64 0,.int .i64 0] 178):=by rw[hW1];exact heap_alloc_new _ _
 obtain⟨z0,z1,z2,z3,z4,z5,z6,z7⟩:=box8' k1;clear k1;go_enter Tryz.func104, Tryz.ntmps104
 go_wp2;rw[<-hW1];replace hW1:=qH hW1;refine bodyPost_ret (v:=.agg #[.int .i64 2,.int .i64 p,.int .i64 3,.int .i64 0,.int .i64 0,.int .i64 0,.int .i64 0,.int .i64 0]) (by simp[results,Tryz.results104,go_sem,z0,z1,z2,z3,z4,z5,z6,z7]) rfl ?_;exact⟨rfl,hb1⟩
def opsExo3:List Oper:=[⟨some 13,.load 24 (.tmp 1),24,"law.go:25",#[],none⟩,⟨some 14,.move (.tmp 2),179,"law.go:25",#[],none⟩,⟨some 15,.call { callee:=.value (.tmp 14),args:=#[.const (.int .i64 1)],argTypes:=#[3] },178,"law.go:25",#[⟨1,.data⟩],none⟩,⟨some 16,.move (.tmp 2),179,"law.go:25",#[],none⟩,⟨some 17,.call { callee:=.value (.tmp 16),args:=#[.const (.int .i64 3)],argTypes:=#[3] },178,"law.go:25",#[⟨3,.data⟩,⟨2,.chain⟩],none⟩,⟨some 18,.buildSlice 180 2 #[(0,.tmp 15),(1,.tmp 17)],180,"law.go:25",#[⟨2,.data⟩,⟨4,.data⟩],none⟩,⟨some 19,.buildSlice 25 1 #[(0,.tmp 18)],25,"law.go:25",#[⟨5,.data⟩],none⟩,⟨some 20,.build 27 #[(0,.const (.int .i64 2)),(1,.tmp 19)],27,"law.go:25",#[⟨6,.data⟩],none⟩,⟨some 21,.build 29 #[(0,.tmp 13),(1,.tmp 20),(2,.const (.int .i64 1))],29,"law.go:25",#[⟨0,.data⟩,⟨7,.data⟩],none⟩,⟨none,.store 29 (.tmp 0) (.tmp 21),0,"law.go:25",#[⟨8,.data⟩,⟨4,.chain⟩,⟨0,.phase⟩,⟨1,.phase⟩,⟨2,.phase⟩,⟨3,.phase⟩,⟨4,.phase⟩,⟨5,.phase⟩,⟨6,.phase⟩,⟨7,.phase⟩,⟨8,.phase⟩],none⟩]
theorem regEx3 {w:World}{x3 x4 x5 x6 x7 x8 x9 x10 x11 x12 x13 x14 x15 x16 x17 x18 x19 x20 x21:Value}{Q:Exit->Act->World->Prop}{b0 b1 cb B:Nat}
  (k0:w.heap[b0]? = some (.cells #[.int .i64 0,.int .i64 0,.int .i64 0,.slice none 0 0,.int .i64 0,.slice none 0 0,.int .i64 0] 29)) (k1:w.heap[b1]? = some (.cells #[.int .i64 2,.int .i64 2,.int .i64 1,.slice (some ⟨cb,0,none⟩) 2 2] 24)) (hBb:B<=b0)
  (hfin:∀(y5 y6 y7 y8 _y9:Value) (W:World),(Below B w W/\((fun i=>decide (i < 10)) 9=false->W.heap[b0]? = some (.cells #[.int .i64 0,.int .i64 0,.int .i64 0,.slice none 0 0,.int .i64 0,.slice none 0 0,.int .i64 0] 29))/\KeepX 29 w W/\((fun i=>decide (i < 10)) 5=true->∃g,y5 = .slice (some ⟨g,0,none⟩) 2 2/\W.heap[g]? = some (.cells #[.int .i64 2,.int .i64 1,.int .i64 3,.int .i64 0,.int .i64 0,.int .i64 0,.int .i64 0,.int .i64 0,.int .i64 2,.int .i64 3,.int .i64 3,.int .i64 0,.int .i64 0,.int .i64 0,.int .i64 0,.int .i64 0] 178))/\((fun i=>decide (i < 10)) 6=true->∃g,y6 = .slice (some ⟨g,0,none⟩) 1 1/\W.heap[g]? = some (.cells #[y5] 180))/\((fun i=>decide (i < 10)) 7=true->y7 = .agg #[.int .i64 2,y6])/\((fun i=>decide (i < 10)) 8=true->y8 = .agg #[.int .i64 2,.int .i64 2,.int .i64 1,.slice (some ⟨cb,0,none⟩) 2 2,.int .i64 2,y6,.int .i64 1])/\((fun i=>decide (i < 10)) 9=true->W.heap[b0]? = some (.cells #[.int .i64 2,.int .i64 2,.int .i64 1,.slice (some ⟨cb,0,none⟩) 2 2,.int .i64 2,y6,.int .i64 1] 29))/\w.heap.size<=W.heap.size)->(True)->(True)->(True)->(True)->(True)->Q .normal ⟨#[.pointer (some ⟨b0,0,none⟩),.pointer (some ⟨b1,0,none⟩),.func (.func 104) #[] #[],x3,x4,x5,x6,x7,x8,x9,x10,x11,x12,.agg #[.int .i64 2,.int .i64 2,.int .i64 1,.slice (some ⟨cb,0,none⟩) 2 2],.func (.func 104) #[] #[],.agg #[.int .i64 2,.int .i64 1,.int .i64 3,.int .i64 0,.int .i64 0,.int .i64 0,.int .i64 0,.int .i64 0],.func (.func 104) #[] #[],.agg #[.int .i64 2,.int .i64 3,.int .i64 3,.int .i64 0,.int .i64 0,.int .i64 0,.int .i64 0,.int .i64 0],y5,y6,y7,y8],[]⟩ W) :
  (Code.region 3 opsExo3.toArray true).wp Tryz.prog Q ⟨#[.pointer (some ⟨b0,0,none⟩),.pointer (some ⟨b1,0,none⟩),.func (.func 104) #[] #[],x3,x4,x5,x6,x7,x8,x9,x10,x11,x12,x13,x14,x15,x16,x17,x18,x19,x20,x21],[]⟩ w:=by
 have hBs:B<=w.heap.size:=by have:=(Array.getElem?_eq_some_iff.1 k0).1;omega
 refine wp_region_sg (l:=opsExo3) (F:=(fun ys=>⟨#[.pointer (some ⟨b0,0,none⟩),.pointer (some ⟨b1,0,none⟩),.func (.func 104) #[] #[],x3,x4,x5,x6,x7,x8,x9,x10,x11,x12,ys 0,ys 1,ys 2,ys 3,ys 4,ys 5,ys 6,ys 7,ys 8],[]⟩)) (Φ:=[eqV (.agg #[.int .i64 2,.int .i64 2,.int .i64 1,.slice (some ⟨cb,0,none⟩) 2 2]),eqV (.func (.func 104) #[] #[]),eqV (.agg #[.int .i64 2,.int .i64 1,.int .i64 3,.int .i64 0,.int .i64 0,.int .i64 0,.int .i64 0,.int .i64 0]),eqV (.func (.func 104) #[] #[]),eqV (.agg #[.int .i64 2,.int .i64 3,.int .i64 3,.int .i64 0,.int .i64 0,.int .i64 0,.int .i64 0,.int .i64 0]),anyV,anyV,anyV,anyV,anyV]) (R:=(fun _ _=>True)) (G:=(fun D ys W=>Below B w W/\(D 9=false->W.heap[b0]? = some (.cells #[.int .i64 0,.int .i64 0,.int .i64 0,.slice none 0 0,.int .i64 0,.slice none 0 0,.int .i64 0] 29))/\KeepX 29 w W/\(D 5=true->∃g,(ys 5) = .slice (some ⟨g,0,none⟩) 2 2/\W.heap[g]? = some (.cells #[.int .i64 2,.int .i64 1,.int .i64 3,.int .i64 0,.int .i64 0,.int .i64 0,.int .i64 0,.int .i64 0,.int .i64 2,.int .i64 3,.int .i64 3,.int .i64 0,.int .i64 0,.int .i64 0,.int .i64 0,.int .i64 0] 178))/\(D 6=true->∃g,(ys 6) = .slice (some ⟨g,0,none⟩) 1 1/\W.heap[g]? = some (.cells #[(ys 5)] 180))/\(D 7=true->(ys 7) = .agg #[.int .i64 2,(ys 6)])/\(D 8=true->(ys 8) = .agg #[.int .i64 2,.int .i64 2,.int .i64 1,.slice (some ⟨cb,0,none⟩) 2 2,.int .i64 2,(ys 6),.int .i64 1])/\(D 9=true->W.heap[b0]? = some (.cells #[.int .i64 2,.int .i64 2,.int .i64 1,.slice (some ⟨cb,0,none⟩) 2 2,.int .i64 2,(ys 6),.int .i64 1] 29))/\w.heap.size<=W.heap.size)) ⟨?s0,?s1,?s2,?s3,?s4,?s5,?s6,?s7,?s8,?s9,trivial⟩ (fun i=>([x13,x14,x15,x16,x17,x18,x19,x20,x21,undef]:List Value).getD i undef) (by kernel_rfl) (by kernel_rfl) ⟨sE,sE,sE,sE,sE,fun _ _ _ h _=>h,fun _ _ _ h _=>h,fun _ _ _ h _=>h,fun _ _ _ h _=>h,fun _ _ _ h _=>h,trivial⟩ ?g0 ?gx ?fin
 case s0=>
  refine StepG.mk rfl (openY 5 fun y5=>openY 6 fun y6=>openY 7 fun y7=>openY 8 fun y8=>fun ys D W K _ _ _ hG hK=>?_);dsimp [updG] at hG|-
  obtain⟨g1,g2,g3,g5,g6,g7,g8,g9,g10⟩:=hG;have k1W:=(g3 b1 _ _ k1 (by decide)).trans k1;have z0:=box_cell (j:=0) k1W rfl;have z1:=box_cell (j:=1) k1W rfl;have z2:=box_cell (j:=2) k1W rfl;have z3:=box_cell (j:=3) k1W rfl;go_simp;exact hK _ _ trivial ⟨g1,g2,g3,g5,g6,g7,g8,g9,g10⟩ rfl
 case s1|s3=>
  refine .q0 (wantU rfl) (fun _=>trivial) (fun _ _ _ h=>h) (fun _=>rfl) fun ys W K hK=>?_;go_simp;exact hK
 case s2=>
  refine StepG.mk rfl (openY 1 fun y1=>openY 5 fun y5=>openY 6 fun y6=>openY 7 fun y7=>openY 8 fun y8=>fun ys D W K hD hcl hd hG hK=>?_);obtain rfl:=(hd.get 1 rfl).2;dsimp [updG] at hG|-
  have d5:=hcl.no (j:=5) (i:=2) rfl (by kernel_rfl) hD;have d6:=hcl.no (j:=6) (i:=5) rfl (by kernel_rfl) d5;have d7:=hcl.no (j:=7) (i:=6) rfl (by kernel_rfl) d6;have d8:=hcl.no (j:=8) (i:=7) rfl (by kernel_rfl) d7;have d9:=hcl.no (j:=9) (i:=2) rfl (by kernel_rfl) hD;obtain⟨g1,g2,g3,g5,g6,g7,g8,g9,g10⟩:=hG;go_simp;refine(exMoveC 1 W).mono ?_;rintro e W9 ⟨rfl,hb9⟩;exact hK _ _ trivial ⟨g1.trans (hb9.mono (Nat.le_trans hBs g10)),fun _=>keptO hb9 (g2 d9),g3.trans (KeepX.below hb9),fun h=>(by rw[show addG D 2 5=D 5 from rfl,d5] at h;cases h),fun h=>(by rw[show addG D 2 6=D 6 from rfl,d6] at h;cases h),fun h=>(by rw[show addG D 2 7=D 7 from rfl,d7] at h;cases h),fun h=>(by rw[show addG D 2 8=D 8 from rfl,d8] at h;cases h),fun h=>(by rw[show addG D 2 9=D 9 from rfl,d9] at h;cases h),Nat.le_trans g10 hb9.size⟩ rfl
 case s4=>
  refine StepG.mk rfl (openY 3 fun y3=>openY 5 fun y5=>openY 6 fun y6=>openY 7 fun y7=>openY 8 fun y8=>fun ys D W K hD hcl hd hG hK=>?_);obtain rfl:=(hd.get 3 rfl).2;dsimp [updG] at hG|-
  have d5:=hcl.no (j:=5) (i:=4) rfl (by kernel_rfl) hD;have d6:=hcl.no (j:=6) (i:=5) rfl (by kernel_rfl) d5;have d7:=hcl.no (j:=7) (i:=6) rfl (by kernel_rfl) d6;have d8:=hcl.no (j:=8) (i:=7) rfl (by kernel_rfl) d7;have d9:=hcl.no (j:=9) (i:=4) rfl (by kernel_rfl) hD;obtain⟨g1,g2,g3,g5,g6,g7,g8,g9,g10⟩:=hG;go_simp;refine(exMoveC 3 W).mono ?_;rintro e W9 ⟨rfl,hb9⟩;exact hK _ _ trivial ⟨g1.trans (hb9.mono (Nat.le_trans hBs g10)),fun _=>keptO hb9 (g2 d9),g3.trans (KeepX.below hb9),fun h=>(by rw[show addG D 4 5=D 5 from rfl,d5] at h;cases h),fun h=>(by rw[show addG D 4 6=D 6 from rfl,d6] at h;cases h),fun h=>(by rw[show addG D 4 7=D 7 from rfl,d7] at h;cases h),fun h=>(by rw[show addG D 4 8=D 8 from rfl,d8] at h;cases h),fun h=>(by rw[show addG D 4 9=D 9 from rfl,d9] at h;cases h),Nat.le_trans g10 hb9.size⟩ rfl
 case s5=>
  refine StepG.mk rfl (openY 2 fun y2=>openY 4 fun y4=>openY 5 fun y5=>openY 6 fun y6=>openY 7 fun y7=>openY 8 fun y8=>fun ys D W K hD hcl hd hG hK=>?_);obtain rfl:=(hd.get 2 rfl).2;obtain rfl:=(hd.get 4 rfl).2;dsimp [updG] at hG|-
  have d6:=hcl.no (j:=6) (i:=5) rfl (by kernel_rfl) hD;have d7:=hcl.no (j:=7) (i:=6) rfl (by kernel_rfl) d6;have d8:=hcl.no (j:=8) (i:=7) rfl (by kernel_rfl) d7;have d9:=hcl.no (j:=9) (i:=5) rfl (by kernel_rfl) hD;obtain⟨g1,g2,g3,g5,g6,g7,g8,g9,g10⟩:=hG;have ha:Below W.heap.size W (W.alloc (.cells #[.int .i64 2,.int .i64 1,.int .i64 3,.int .i64 0,.int .i64 0,.int .i64 0,.int .i64 0,.int .i64 0,.int .i64 2,.int .i64 3,.int .i64 3,.int .i64 0,.int .i64 0,.int .i64 0,.int .i64 0,.int .i64 0] 178)):=(Below.refl _ W).alloc (Nat.le_refl _) _;go_simp;exact hK _ _ trivial ⟨g1.trans (ha.mono (Nat.le_trans hBs g10)),fun _=>keptO ha (g2 d9),g3.trans (KeepX.below ha),fun _=>⟨_,rfl,heap_alloc_new W _⟩,fun h=>(by rw[show addG D 5 6=D 6 from rfl,d6] at h;cases h),fun h=>(by rw[show addG D 5 7=D 7 from rfl,d7] at h;cases h),fun h=>(by rw[show addG D 5 8=D 8 from rfl,d8] at h;cases h),fun h=>(by rw[show addG D 5 9=D 9 from rfl,d9] at h;cases h),Nat.le_trans g10 ha.size⟩ trivial
 case s6=>
  refine StepG.mk rfl (openY 5 fun y5=>openY 6 fun y6=>openY 7 fun y7=>openY 8 fun y8=>fun ys D W K hD hcl hd hG hK=>?_);have d5:=(hd.get 5 rfl).1;dsimp [updG] at hG|-
  have d5:=(hd.get 5 rfl).1;have d7:=hcl.no (j:=7) (i:=6) rfl (by kernel_rfl) hD;have d8:=hcl.no (j:=8) (i:=7) rfl (by kernel_rfl) d7;have d9:=hcl.no (j:=9) (i:=6) rfl (by kernel_rfl) hD;obtain⟨g1,g2,g3,g5,g6,g7,g8,g9,g10⟩:=hG;obtain⟨g,e5,hg⟩:=g5 d5;subst e5;have ha:Below W.heap.size W (W.alloc (.cells #[.slice (some ⟨g,0,none⟩) 2 2] 180)):=(Below.refl _ W).alloc (Nat.le_refl _) _;go_simp;exact hK _ _ trivial ⟨g1.trans (ha.mono (Nat.le_trans hBs g10)),fun _=>keptO ha (g2 d9),g3.trans (KeepX.below ha),fun _=>⟨g,rfl,keptO ha hg⟩,fun _=>⟨_,rfl,heap_alloc_new W _⟩,fun h=>(by rw[show addG D 6 7=D 7 from rfl,d7] at h;cases h),fun h=>(by rw[show addG D 6 8=D 8 from rfl,d8] at h;cases h),fun h=>(by rw[show addG D 6 9=D 9 from rfl,d9] at h;cases h),Nat.le_trans g10 ha.size⟩ trivial
 case s7=>
  refine StepG.mk rfl (openY 5 fun y5=>openY 6 fun y6=>openY 7 fun y7=>openY 8 fun y8=>fun ys D W K hD hcl hd hG hK=>?_);have d6:=(hd.get 6 rfl).1;dsimp [updG] at hG|-
  have d6:=(hd.get 6 rfl).1;have d8:=hcl.no (j:=8) (i:=7) rfl (by kernel_rfl) hD;have d9:=hcl.no (j:=9) (i:=7) rfl (by kernel_rfl) hD;obtain⟨g1,g2,g3,g5,g6,g7,g8,g9,g10⟩:=hG;obtain⟨g,e6,hg⟩:=g6 d6;subst e6;go_simp;exact hK _ _ trivial ⟨g1,g2,g3,g5,fun _=>⟨g,rfl,hg⟩,fun _=>rfl,fun h=>(by rw[show addG D 7 8=D 8 from rfl,d8] at h;cases h),fun h=>(by rw[show addG D 7 9=D 9 from rfl,d9] at h;cases h),g10⟩ trivial
 case s8=>
  refine StepG.mk rfl (openY 0 fun y0=>openY 5 fun y5=>openY 6 fun y6=>openY 7 fun y7=>openY 8 fun y8=>fun ys D W K hD hcl hd hG hK=>?_);obtain rfl:=(hd.get 0 rfl).2;have d7:=(hd.get 7 rfl).1;dsimp [updG] at hG|-
  have d7:=(hd.get 7 rfl).1;have d9:=hcl.no (j:=9) (i:=8) rfl (by kernel_rfl) hD;obtain⟨g1,g2,g3,g5,g6,g7,g8,g9,g10⟩:=hG;obtain e7:=g7 d7;subst e7;go_simp;exact hK _ _ trivial ⟨g1,g2,g3,g5,g6,g7,fun _=>rfl,fun h=>(by rw[show addG D 8 9=D 9 from rfl,d9] at h;cases h),g10⟩ trivial
 case s9=>
  refine StepG.mk rfl (openY 5 fun y5=>openY 6 fun y6=>openY 7 fun y7=>openY 8 fun y8=>fun ys D W K hD _ hd hG hK=>?_);have d8:=(hd.get 8 rfl).1;have d5:=(hd.get 5 rfl).1;have d6:=(hd.get 6 rfl).1;have d7:=(hd.get 7 rfl).1;dsimp [updG] at hG|-
  have d8:=(hd.get 8 rfl).1;have d5:=(hd.get 5 rfl).1;have d6:=(hd.get 6 rfl).1;have d7:=(hd.get 7 rfl).1;obtain⟨g1,g2,g3,g5,g6,g7,g8,g9,g10⟩:=hG;have e8:=g8 d8;obtain⟨g,e6,hg⟩:=g6 d6;have e7:=g7 d7;subst e6;subst e8;subst e7;obtain⟨g',e5,hg'⟩:=g5 d5;subst e5;have k0:=g2 hD;obtain⟨z0,z1,z2,z3,z4,z5,z6⟩:=box7' k0;have fz:=row_free k0;obtain⟨WF,hWF⟩:=exF (((((((W.setCell ⟨b0,0,none⟩ (.int .i64 2)).setCell ⟨b0,1,none⟩ (.int .i64 2)).setCell ⟨b0,2,none⟩ (.int .i64 1)).setCell ⟨b0,3,none⟩ (.slice (some ⟨cb,0,none⟩) 2 2)).setCell ⟨b0,4,none⟩ (.int .i64 2)).setCell ⟨b0,5,none⟩ (.slice (some ⟨g,0,none⟩) 1 1)).setCell ⟨b0,6,none⟩ (.int .i64 1));obtain⟨kf,hX,hbb⟩:=setAll7 k0 (.int .i64 2) (.int .i64 2) (.int .i64 1) (.slice (some ⟨cb,0,none⟩) 2 2) (.int .i64 2) (.slice (some ⟨g,0,none⟩) 1 1) (.int .i64 1) hWF;have hsF:WF.heap.size=W.heap.size:=by rw[hWF];simp
  have hgF:=(hX _ _ _ hg (by decide)).trans hg;have hgF':=(hX _ _ _ hg' (by decide)).trans hg';go_simp;rw[<-hWF];exact hK undef _ trivial ⟨hbb _ _ g1 hBb,fun h=>(by cases h),g3.trans hX,fun _=>⟨g',rfl,hgF'⟩,fun _=>⟨g,rfl,hgF⟩,fun _=>rfl,fun _=>rfl,fun _=>kf,by rw[hsF];exact g10⟩ trivial
 case g0=>exact⟨(below_drewN (Below.refl _ w) 1).mono hBs,fun _=>k0,KeepX.below (below_drewN (Below.refl _ w) 1),fun h=>(by cases h),fun h=>(by cases h),fun h=>(by cases h),fun h=>(by cases h),fun h=>(by cases h),Nat.le_refl _⟩
 case gx=>exact fun D D' ys W h ⟨g1,g2,g3,g5,g6,g7,g8,g9,g10⟩=>⟨g1,fun q=>g2 ((h 9 (by decide)).trans q),g3,fun q=>g5 ((h 5 (by decide)).trans q),fun q=>g6 ((h 6 (by decide)).trans q),fun q=>g7 ((h 7 (by decide)).trans q),fun q=>g8 ((h 8 (by decide)).trans q),fun q=>g9 ((h 9 (by decide)).trans q),g10⟩
 case fin=>
  intro ys W hG hp;try dsimp only
  rw[(hpE hp 0:ys 0=_),(hpE hp 1:ys 1=_),(hpE hp 2:ys 2=_),(hpE hp 3:ys 3=_),(hpE hp 4:ys 4=_)];exact hfin (ys 5) (ys 6) (ys 7) (ys 8) (ys 9) W hG (hpE hp 5) (hpE hp 6) (hpE hp 7) (hpE hp 8) (hpE hp 9)
def chW (w:World) (os:List Obj):World:=os.foldl World.alloc w
theorem chW_size:∀(os:List Obj) (w:World),(chW w os).heap.size=w.heap.size+os.length
 | [],w=>rfl
 | o::os,w=>by
  have:=chW_size os (w.alloc o)
  unfold chW at this|-;rw[List.foldl_cons,this,World.size_alloc,List.length_cons];omega
theorem chW_below:∀(os:List Obj) (w:World),Below w.heap.size w (chW w os)
 | [],w=>Below.refl _ _
 | o::os,w=>by
  have h1:=chW_below os (w.alloc o);have h2:Below w.heap.size w (w.alloc o):=(Below.refl _ w).alloc (Nat.le_refl _) _;exact btt h2 h1
theorem chW_at:∀(os:List Obj) (w:World) (i:Nat) (o:Obj),os[i]? = some o->(chW w os).heap[w.heap.size+i]? = some o
 | [],w,i,o,h=>by simp at h
 | p::os,w,0,o,h=>by
  simp only[List.getElem?_cons_zero,Option.some.injEq] at h;subst h;exact keptO (chW_below os (w.alloc p)) (heap_alloc_new w p)
 | p::os,w,i+1,o,h=>by
  have:=chW_at os (w.alloc p) i o (by simpa using h)
  rw[World.size_alloc] at this;rw[show w.heap.size+(i+1)=w.heap.size+1+i by omega];exact this
def exCs:List Cs:=[([0,0],[[0,0]],[]),([0,1],[[0,0]],[])]
def exSS:Jc:=[[mvE 1,mvE 3]]
theorem intsLit2 {w:World}{b:Nat}{x y:Int}(h:w.heap[b]? = some (.cells #[.int .i64 x,.int .i64 y] 3)):Ints w (.slice (some ⟨b,0,none⟩) 2 2) [x,y]:=by
 refine⟨_,_,b,0,rfl,fun _=>rfl,fun j hj=>?_,by simp⟩;match j,hj with
 | 0,_=>exact box_cell h rfl
 | 1,_=>exact box_cell h rfl
theorem intssLit1 {w:World}{b:Nat}{v:Value}{x:List Int}(h:w.heap[b]? = some (.cells #[v] 48)) (hx:Ints w v x):Intss w (.slice (some ⟨b,0,none⟩) 1 1) [x]:=by
 refine⟨_,_,b,0,rfl,fun _=>rfl,fun j hj=>?_,by simp⟩;match j,hj with
 | 0,_=>exact⟨_,cell_of_one h,hx⟩
theorem exampleC (w:World):Calls Tryz.prog 52 #[] w fun e w'=>∃v,e = .returned v/\PrV w' v 2 2 1 exCs 2 exSS 1/\Below w.heap.size w w':=by
 obtain⟨B,hB⟩:=exF (w.heap.size)
 obtain⟨os,hos⟩:∃os:List Obj,os = [.cells #[.int .i64 0,.int .i64 0,.int .i64 0,.slice none 0 0,.int .i64 0,.slice none 0 0,.int .i64 0] 29,
  .cells #[.int .i64 0,.int .i64 0] 3,.cells #[.int .i64 0,.int .i64 0] 3,.cells #[.slice (some ⟨w.heap.size+1+1,0,none⟩) 2 2] 48,
  .cells #[.int .i64 0,.int .i64 1] 3,.cells #[.int .i64 0,.int .i64 0] 3,.cells #[.slice (some ⟨w.heap.size+1+1+1+1+1,0,none⟩) 2 2] 48,
  .cells #[.slice (some ⟨w.heap.size+1,0,none⟩) 2 2,.slice (some ⟨w.heap.size+1+1+1,0,none⟩) 1 1,.slice none 0 0,.slice (some ⟨w.heap.size+1+1+1+1,0,none⟩) 2 2,.slice (some ⟨w.heap.size+1+1+1+1+1+1,0,none⟩) 1 1,.slice none 0 0] 95,
  .cells #[.int .i64 2,.int .i64 2,.int .i64 1,.slice (some ⟨w.heap.size+1+1+1+1+1+1+1,0,none⟩) 2 2] 24]:=⟨_,rfl⟩
 obtain⟨W9,hW9⟩:=exF (chW w os);have hat:∀i o,os[i]? = some o->W9.heap[w.heap.size+i]? = some o:=fun i o h=>by rw[hW9];exact chW_at os w i o h
 have hb9:Below w.heap.size w W9:=by rw[hW9];exact chW_below os w
 have k0:W9.heap[w.heap.size]? = _:=hat 0 _ (by rw[hos];rfl);have k1:W9.heap[w.heap.size+1]? = _:=hat 1 _ (by rw[hos];rfl);have k2:W9.heap[w.heap.size+1+1]? = _:=hat 2 _ (by rw[hos];rfl);have k3:W9.heap[w.heap.size+1+1+1]? = _:=hat 3 _ (by rw[hos];rfl);have k4:W9.heap[w.heap.size+1+1+1+1]? = _:=hat 4 _ (by rw[hos];rfl);have k5:W9.heap[w.heap.size+1+1+1+1+1]? = _:=hat 5 _ (by rw[hos];rfl);have k6:W9.heap[w.heap.size+1+1+1+1+1+1]? = _:=hat 6 _ (by rw[hos];rfl);have k7:W9.heap[w.heap.size+1+1+1+1+1+1+1]? = _:=hat 7 _ (by rw[hos];rfl);have k8:W9.heap[w.heap.size+1+1+1+1+1+1+1+1]? = _:=hat 8 _ (by rw[hos];rfl);rw[hos] at hW9;simp only[chW,List.foldl_cons,List.foldl_nil] at hW9;clear hat hos;go_enter Tryz.func52, Tryz.ntmps52
 go_upto_region 3 with fail
 rw[<-hW9];replace hW9:=qH hW9;refine regEx3 (B:=w.heap.size) k0 k8 (Nat.le_refl _) ?_;rintro y5 y6 y7 y8 y9 W ⟨g1,-,g3,G5,G6,-,-,G9,-⟩ - - - - -;obtain⟨g5,rfl,q5⟩:=G5 rfl;obtain⟨g6,rfl,q6⟩:=G6 rfl;have q0:=G9 rfl;have n1:=(g3 _ _ _ k1 (by decide)).trans k1;have n2:=(g3 _ _ _ k2 (by decide)).trans k2;have n3:=(g3 _ _ _ k3 (by decide)).trans k3;have n4:=(g3 _ _ _ k4 (by decide)).trans k4;have n5:=(g3 _ _ _ k5 (by decide)).trans k5;have n6:=(g3 _ _ _ k6 (by decide)).trans k6;have n7:=(g3 _ _ _ k7 (by decide)).trans k7;have s0:Intss W (.slice none 0 0) []:=⟨_,_,0,0,rfl,fun h=>absurd h (Nat.lt_irrefl 0),fun j hj=>absurd hj (Nat.not_lt_zero j),Nat.zero_le _⟩
 have hCs:CsS W (.slice (some ⟨w.heap.size+1+1+1+1+1+1+1,0,none⟩) 2 2) exCs:=⟨_,_,_,0,rfl,fun _=>rfl,fun j hj=>by
  match j,hj with
  | 0,_=>exact⟨_,_,_,box_cell n7 rfl,box_cell n7 rfl,box_cell n7 rfl,intsLit2 n1,intssLit1 n3 (intsLit2 n2),s0⟩
  | 1,_=>exact⟨_,_,_,box_cell n7 rfl,box_cell n7 rfl,box_cell n7 rfl,intsLit2 n4,intssLit1 n6 (intsLit2 n5),s0⟩,show 2<=1954687338268 by decide⟩
 have hMs:KS 8 W (.slice (some ⟨g5,0,none⟩) 2 2) [mvE 1,mvE 3]:=⟨_,_,g5,0,rfl,fun _=>rfl,fun j hj=>by
  match j,hj with
  | 0,_=>exact⟨rfl,fun i hi=>by
    match i,hi with
    | 0,_=>exact box_cell q5 rfl
    | 1,_=>exact box_cell q5 rfl
    | 2,_=>exact box_cell q5 rfl
    | 3,_=>exact box_cell q5 rfl
    | 4,_=>exact box_cell q5 rfl
    | 5,_=>exact box_cell q5 rfl
    | 6,_=>exact box_cell q5 rfl
    | 7,_=>exact box_cell q5 rfl⟩
  | 1,_=>exact⟨rfl,fun i hi=>by
    match i,hi with
    | 0,_=>exact box_cell q5 rfl
    | 1,_=>exact box_cell q5 rfl
    | 2,_=>exact box_cell q5 rfl
    | 3,_=>exact box_cell q5 rfl
    | 4,_=>exact box_cell q5 rfl
    | 5,_=>exact box_cell q5 rfl
    | 6,_=>exact box_cell q5 rfl
    | 7,_=>exact box_cell q5 rfl⟩,show 2<=2199023255552 by decide⟩
 have hSS:KSS 8 W (.slice (some ⟨g6,0,none⟩) 1 1) exSS:=⟨_,_,g6,0,rfl,fun _=>rfl,fun j hj=>by
  match j,hj with
  | 0,_=>exact⟨_,cell_of_one q6,hMs⟩,show 1<=5864062014805 by decide⟩
 have hPr:Hid (PrV W (.agg #[.int .i64 2,.int .i64 2,.int .i64 1,.slice (some ⟨w.heap.size+1+1+1+1+1+1+1,0,none⟩) 2 2,.int .i64 2,.slice (some ⟨g6,0,none⟩) 1 1,.int .i64 1]) 2 2 1 exCs 2 exSS 1):=
  ⟨_,_,_,_,rfl,⟨_,rfl,hCs⟩,⟨_,rfl,hSS⟩⟩
 obtain⟨z0,z1,z2,z3,z4,z5,z6⟩:=box7' q0;have hbf:=hb9.trans g1;clear k0 k1 k2 k3 k4 k5 k6 k7 k8 n1 n2 n3 n4 n5 n6 n7 q5 q6 q0 hCs hMs hSS s0 G5 G6 G9 g3;go_wp2;refine bodyPost_ret (v:=.agg #[.int .i64 2,.int .i64 2,.int .i64 1,.slice (some ⟨w.heap.size+1+1+1+1+1+1+1,0,none⟩) 2 2,.int .i64 2,.slice (some ⟨g6,0,none⟩) 1 1,.int .i64 1]) (by simp[results,Tryz.results52,go_sem,z0,z1,z2,z3,z4,z5,z6]) rfl ?_;exact⟨_,rfl,hPr.out,hbf⟩
theorem pairC (p q:Int) (w:World):Calls Tryz.prog 54 #[.int .i64 p,.int .i64 q] w fun e w'=>∃b,e = .returned (.slice (some ⟨b,0,none⟩) 2 2)/\KS 2 w' (.slice (some ⟨b,0,none⟩) 2 2) [[0,p],[1,q]]/\Below w.heap.size w w':=by
 have k1:=heap_alloc_new w (.cells #[.int .i64 0,.int .i64 p,.int .i64 1,.int .i64 q] 83)
 have hK:Hid (KS 2 (w.alloc (.cells #[.int .i64 0,.int .i64 p,.int .i64 1,.int .i64 q] 83)) (.slice (some ⟨w.heap.size,0,none⟩) 2 2) [[0,p],[1,q]]):=⟨_,_,w.heap.size,0,rfl,fun _=>rfl,fun j hj=>by
  match j,hj with
  | 0,_=>exact⟨rfl,fun i hi=>by
    match i,hi with
    | 0,_=>exact box_cell k1 rfl
    | 1,_=>exact box_cell k1 rfl⟩
  | 1,_=>exact⟨rfl,fun i hi=>by
    match i,hi with
    | 0,_=>exact box_cell k1 rfl
    | 1,_=>exact box_cell k1 rfl⟩,show 2<=2199023255552 by decide⟩
 have hb:Below w.heap.size w (w.alloc (.cells #[.int .i64 0,.int .i64 p,.int .i64 1,.int .i64 q] 83)):=(Below.refl _ w).alloc (Nat.le_refl _) _;clear k1;go_enter Tryz.func54, Tryz.ntmps54
 go_wp2;go_ret;exact⟨_,rfl,hK.out,hb⟩
theorem twoBox4 (w:World) (a b c d:Value) (t:TypeId):∃W1,W1=(w.alloc (.cells #[a,b] t)).alloc (.cells #[c,d] t)/\Below w.heap.size w W1/\W1.heap[w.heap.size]? = some (.cells #[a,b] t)/\W1.heap[w.heap.size+1]? = some (.cells #[c,d] t):=by
 refine⟨_,rfl,((Below.refl _ w).alloc (Nat.le_refl _) _).alloc (by simp) _,(Below.heap_alloc _ _ _ (by simp)).trans (heap_alloc_new w _),?_⟩;have:=heap_alloc_new (w.alloc (.cells #[a,b] t)) (.cells #[c,d] t)
 rwa [World.size_alloc] at this
theorem refSameMap {w:World}{u v:Value}{P Q P' Q':Jb}(h:MapV w u P Q) (k:MapV w v P' Q') :
  Calls Tryz.prog 14 #[u,v] w fun e w'=>e = .returned (.bool (decide (P=P') && decide (Q=Q')))/\Below w.heap.size w w':=by
 obtain⟨fa,fc,ta,tc,rfl,h1,h2⟩:=h;obtain⟨ga,gc,sa,sc,rfl,h3,h4⟩:=k;obtain⟨W1,hW1,hb1,kA,kB⟩:=twoBox4 w (.slice fa P.length fc) (.slice ta Q.length tc) (.slice ga P'.length gc) (.slice sa Q'.length sc) 40;have HX:=qH (And.intro (boxL2 kA) (boxL2 kB));obtain⟨⟨p0,p1⟩,q0,q1⟩:=HX.out;rw[hW1] at p0 p1 q0 q1;have c1:=h1.keep hb1;have c2:=h2.keep hb1;have c3:=h3.keep hb1;have c4:=h4.keep hb1;obtain⟨B,hB⟩:∃B,(decide (P=P') && decide (Q=Q'))=B:=⟨_,rfl⟩;rw[hB];clear kA kB h1 h2 h3 h4;by_cases hl1:P.length=P'.length
 ·by_cases hl2:Q.length=Q'.length
  ·obtain⟨fa',fc',fb,fo,e1,hfa,hfc,hfl⟩:=c1;injection e1 with e1 _ e3;subst e1 e3;obtain⟨ta',tc',tb,to',e1,hta,htc,htl⟩:=c2;injection e1 with e1 _ e3;subst e1 e3;obtain⟨ga',gc',gb,go',e1,hga,hgc,-⟩:=c3;injection e1 with e1 _ e3;subst e1 e3;obtain⟨sa',sc',sb,so',e1,hsa,hsc,-⟩:=c4;injection e1 with e1 _ e3;subst e1 e3;rw[<-hl1,<-hl2] at HX;rw[<-hl1] at q0 hW1;rw[<-hl2] at q1 hW1;replace hfc:=qH hfc;replace htc:=qH htc;replace hgc:=qH hgc;replace hsc:=qH hsc;have h0:Hid (P.take 0=P'.take 0):=rfl;have h00:Hid (Q.take 0=Q'.take 0):=rfl;rw[<-hl1,<-hl2];replace hl1:=qH hl1;replace hl2:=qH hl2;replace hB:=qH hB;go_enter Tryz.func14, Tryz.ntmps14
   go_wp2_with fail
   rw[<-hW1];replace hW1:=qH hW1;clear p0 p1 q0 q1;go_loopw [5] (fun iv wr=>∃i:Nat,iv = .int .i64 i/\i<=P.length/\Hid (P.take i=P'.take i)/\Qt W1 wr) (fun iv _=>P.length - (intOf iv).toNat)
   case atStart=>exact⟨0,rfl,by omega,h0,Qt.refl _⟩
   case round=>
    clear h0;obtain⟨i,rfl,hi,ht,n,rfl⟩:=hrel;obtain⟨⟨p0,p1⟩,q0,q1⟩:=HX.out;by_cases hlt:i < P.length
    ·obtain rfl:=hfa (by omega);obtain rfl:=hga (by rw[<-hl1.out];omega);have hii:(i:Int) < (P.length:Int):=(by omega);have hlt':i < P'.length:=(by rw[<-hl1.out];exact hlt);obtain⟨hx8,hxi⟩:=hfc.out i hlt;obtain⟨hy8,hyi⟩:=hgc.out i hlt';obtain⟨x,hx⟩:=exE (P.getD i []);obtain⟨y,hy⟩:=exE (P'.getD i []);rw[hx] at hx8 hxi;rw[hy] at hy8 hyi;obtain⟨x0,x1,rfl⟩:=two hx8;obtain⟨y0,y1,rfl⟩:=two hy8;obtain⟨c0,c1⟩:=hxi.all2;obtain⟨d0,d1⟩:=hyi.all2;clear hxi hyi hx8 hy8;by_cases he : [x0,x1] = [y0,y1]
     ·have hE:eqL [x0,x1] [y0,y1]=true:=eqL_true.2 he;have ht2:Hid (P.take (i+1)=P'.take (i+1)):=takes_next ht.out hlt hlt' (by rw[hx,hy,he]);clear hx hy he ht;go_wp2;go_quiet (fail)
      go_wp2;go_roundw
      case rel=>exact⟨i+1,by go_num,hlt,ht2,by first|exact(Qt.mk' W1 n).step nq|exact Qt.mk' W1 _⟩
      case measure=>simp[intOf];omega
     ·have hE:eqL [x0,x1] [y0,y1]=false:=eqL_false.2 he
      have hBf:Hid (B=false):=by
       show _=_;rw[<-hB.out,decide_eq_false (fun h=>he (by rw[<-hx,<-hy,h]))];rfl
      clear hx hy he ht;go_wp2;go_quiet (fail)
      go_wp2;go_ret;exact⟨by rw[hBf.out];rfl,btt hb1 (below_drewN (below_drewN (Below.refl _ _) _) _)⟩
    ·have hPe:P=P':=takes_all ht.out (by omega) (by rw[<-hl1.out];omega);obtain rfl:i=P.length:=(by omega);clear ht;replace hPe:=qH hPe;go_wp2_with fail
     go_loopw [6] (fun iv wr=>∃i:Nat,iv = .int .i64 i/\i<=Q.length/\Hid (Q.take i=Q'.take i)/\Qt W1 wr) (fun iv _=>Q.length - (intOf iv).toNat)
     case atStart=>exact⟨0,rfl,by omega,h00,Qt.mk' W1 n⟩
     case round=>
      clear h00;obtain⟨i,rfl,hi,ht,n,rfl⟩:=hrel;obtain⟨⟨p0,p1⟩,q0,q1⟩:=HX.out;by_cases hlt:i < Q.length
      ·obtain rfl:=hta (by omega);obtain rfl:=hsa (by rw[<-hl2.out];omega);have hii:(i:Int) < (Q.length:Int):=(by omega);have hlt':i < Q'.length:=(by rw[<-hl2.out];exact hlt);obtain⟨hx8,hxi⟩:=htc.out i hlt;obtain⟨hy8,hyi⟩:=hsc.out i hlt';obtain⟨x,hx⟩:=exE (Q.getD i []);obtain⟨y,hy⟩:=exE (Q'.getD i []);rw[hx] at hx8 hxi;rw[hy] at hy8 hyi;obtain⟨x0,x1,rfl⟩:=two hx8;obtain⟨y0,y1,rfl⟩:=two hy8;obtain⟨c0,c1⟩:=hxi.all2;obtain⟨d0,d1⟩:=hyi.all2;clear hxi hyi hx8 hy8;by_cases he : [x0,x1] = [y0,y1]
       ·have hE:eqL [x0,x1] [y0,y1]=true:=eqL_true.2 he;have ht2:Hid (Q.take (i+1)=Q'.take (i+1)):=takes_next ht.out hlt hlt' (by rw[hx,hy,he]);clear hx hy he ht;go_wp2;go_quiet (fail)
        go_wp2;go_roundw
        case rel=>exact⟨i+1,by go_num,hlt,ht2,by first|exact(Qt.mk' W1 n).step nq|exact Qt.mk' W1 _⟩
        case measure=>simp[intOf];omega
       ·have hE:eqL [x0,x1] [y0,y1]=false:=eqL_false.2 he
        have hBf:Hid (B=false):=by
         show _=_;rw[<-hB.out,decide_eq_false (p:=Q=Q') (fun h=>he (by rw[<-hx,<-hy,h])),Bool.and_false]
        clear hx hy he ht;go_wp2;go_quiet (fail)
        go_wp2;go_ret;exact⟨by rw[hBf.out];rfl,btt hb1 (below_drewN (below_drewN (Below.refl _ _) _) _)⟩
      ·have hQe:Q=Q':=takes_all ht.out (by omega) (by rw[<-hl2.out];omega);obtain rfl:i=Q.length:=(by omega);have hBt:Hid (B=true):=(by show _=_;rw[<-hB.out,decide_eq_true hPe.out,decide_eq_true hQe];rfl);clear ht hQe;go_wp2;go_ret;exact⟨by rw[hBt.out];rfl,btt hb1 (below_drewN (Below.refl _ _) _)⟩
  ·have hBf:B=false:=(by rw[<-hB,decide_eq_false (p:=Q=Q') (fun h=>hl2 (by rw[h])),Bool.and_false]);subst hBf;have e2:((Q.length:Int) == (Q'.length:Int))=false:=beq_eq_false_iff_ne.2 (by omega);rw[<-hl1] at q0 hW1;rw[<-hl1];replace hl1:=qH hl1;replace hl2:=qH hl2;replace hB:=qH hB;clear HX;go_enter Tryz.func14, Tryz.ntmps14
   go_wp2;go_ret;rw[<-hW1];exact⟨rfl,hb1⟩
 ·have hBf:B=false:=by rw[<-hB,decide_eq_false (p:=P=P') (fun h=>hl1 (by rw[h]))];rfl
  subst hBf;have e2:((P.length:Int) == (P'.length:Int))=false:=beq_eq_false_iff_ne.2 (by omega);replace hl1:=qH hl1;replace hB:=qH hB;clear HX;go_enter Tryz.func14, Tryz.ntmps14
  go_wp2;go_ret;rw[<-hW1];exact⟨rfl,hb1⟩
end Go.Proofs.YtcnedkkcgdkioaaGreat
namespace Go.Proofs.YtcnedkkcgdkioaaGreat
def exVs:Jb:=(sysP 2 exCs (wL exSS 1 0)).1
def exXs:List Ex:=(sysP 2 exCs (wL exSS 1 0)).2
def pairX (a b:Int):Jb:=[[0,a],[1,b]]
def exC1:Jc:=[pairX 2 3,pairX 2 6,pairX 4 3,pairX 7 6]
def exC2:Jc:=[pairX 2 3,pairX 4 3]
def exFrom:Jb:=[[0,2],[0,4],[0,7],[1,3],[1,6]]
def exTo:Jb:=[[0,0],[0,0],[0,0],[1,0],[1,1]]
theorem exFew:fewP 2 2 1 exCs 2 exSS 1=true:=by decide +kernel
theorem exBld:bldE 2 2 1 exCs 2 exSS 1=0:=by decide +kernel
theorem exVer:verE 2 2 1 exCs 2 exSS 1 2 exVs exXs=0:=by
 unfold verE;rw[if_neg (fun h=>h exBld),if_pos ⟨rfl,rfl,rfl⟩]
theorem exCx1:maxX (simsX 2 1 exXs (-1))=exC1:=by decide +kernel
theorem exCx2:maxX (simsX 2 1 exXs 0)=exC2:=by decide +kernel
theorem exPts:ptsX exC1=exFrom:=by decide +kernel
theorem exPrj:prjX exVs exFrom=exTo:=by decide +kernel
theorem exCs1:csL 2 1 exXs [[0,2]] 2 = [0,1]:=by decide +kernel
theorem exCs2:csL 2 1 exXs (pairX 4 3) 2 = [0]:=by decide +kernel
theorem exChk1:chkS [[0,2]]=0:=by decide +kernel
theorem exChk2:chkS (pairX 4 3)=0:=by decide +kernel
end Go.Proofs.YtcnedkkcgdkioaaGreat
