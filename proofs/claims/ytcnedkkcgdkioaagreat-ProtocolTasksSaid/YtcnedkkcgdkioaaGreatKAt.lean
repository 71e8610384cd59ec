/- Texts of this claim, put together: NS OA OB OC OF0. -/
import Derived.Test.YtcnedkkcgdkioaaGreatKAs
import Derived.WideKeyEntry

set_option maxRecDepth 100000
set_option maxHeartbeats 12800000
namespace Go.Proofs.YtcnedkkcgdkioaaGreat
open Go.RowKit
theorem boxL2 {w:World}{b:Nat}{t:TypeId}{u0 u1:Value}(h:w.heap[b]? = some (.cells #[u0,u1] t)) :
  w.cell? ⟨b,0,none⟩=some u0∧w.cell? ⟨b,1,none⟩=some u1:=
 ⟨box_cell h rfl,box_cell h rfl⟩
theorem orInt {w:World}{b:Nat}{x y:Int}(c0:w.cell? ⟨b,0,none⟩=some (.int .i64 x)) (c1:w.cell? ⟨b,1,none⟩=some (.int .i64 y)):Calls Tryz.prog 176 #[.slice (some ⟨b,0,none⟩) 2 2] w fun e w'=>e = .returned (.int .i64 (if x=0 then y else x))∧w'=w:=by
 by_cases hx:x=0
 ·subst hx;by_cases hy:y=0
  ·subst hy;rw[if_pos rfl];go_enter Tryz.func176, Tryz.ntmps176
   go_wp2_with fail
   go_loopw [8] (fun iv wr=>∃i:Nat,iv = .int .i64 i∧i≤2∧wr=w) (fun iv _=>2 - (intOf iv).toNat)
   case atStart=>exact⟨0,rfl,by omega,rfl⟩
   case round=>
    obtain⟨i,rfl,hi,rfl⟩:=hrel;have h3:i=0∨i=1∨i=2:=(by omega);rcases h3 with rfl|rfl|rfl
    ·go_wp2;go_roundw
     case rel=>exact⟨1,rfl,by omega,by first|rfl|trivial⟩
     case measure=>simp[intOf]
    ·go_wp2;go_roundw
     case rel=>exact⟨2,rfl,by omega,by first|rfl|trivial⟩
     case measure=>simp[intOf]
    ·go_wp2;go_ret;exact⟨rfl,rfl⟩
  ·have hb:(y != 0)=true:=(by simpa using hy);rw[if_pos rfl];replace hy:=qH hy;go_enter Tryz.func176, Tryz.ntmps176
   go_wp2_with fail
   go_loopw [8] (fun iv wr=>∃i:Nat,iv = .int .i64 i∧i≤1∧wr=w) (fun iv _=>2 - (intOf iv).toNat)
   case atStart=>exact⟨0,rfl,by omega,rfl⟩
   case round=>
    obtain⟨i,rfl,hi,rfl⟩:=hrel;have h3:i=0∨i=1:=(by omega);rcases h3 with rfl|rfl
    ·go_wp2;go_roundw
     case rel=>exact⟨1,rfl,by omega,by first|rfl|trivial⟩
     case measure=>simp[intOf]
    ·go_wp2;go_ret;exact⟨rfl,rfl⟩
 ·have hb:(x != 0)=true:=by simpa using hx
  rw[if_neg hx];replace hx:=qH hx;go_enter Tryz.func176, Tryz.ntmps176
  go_wp2_with fail
  go_loopw [8] (fun iv wr=>iv = .int .i64 0∧wr=w) (fun _ _=>1)
  case atStart=>exact⟨rfl,rfl⟩
  case round=>
   obtain⟨rfl,rfl⟩:=hrel;go_wp2;go_ret;exact⟨rfl,rfl⟩
def posV (x:List Int):Bool:=decide (0≤x.getD 0 0) && (decide (x.getD 0 0 < 8) && (decide (0≤x.getD 1 0) && decide (x.getD 1 0≤1048576)))
theorem posV_two (a b:Int):posV [a,b]=(decide (0≤a) && (decide (a < 8) && (decide (0≤b) && decide (b≤1048576)))):=rfl
theorem possibleC (a b:Int) (w:World):Calls Tryz.prog 110 #[.agg #[.int .i64 a,.int .i64 b]] w fun e w'=>e = .returned (.bool (posV [a,b]))∧Below w.heap.size w w':=by
 rw[posV_two];obtain⟨W1,hW1⟩:=exF (w.alloc (.cells #[.int .i64 a,.int .i64 b] 83));have hb1:Below w.heap.size w W1:=by rw[hW1];exact(Below.refl _ w).alloc (Nat.le_refl _) _
 have kA:W1.heap[w.heap.size]? = some (.cells #[.int .i64 a,.int .i64 b] 83):=by rw[hW1];exact heap_alloc_new _ _
 obtain⟨z0,z1⟩:=boxL2 kA;rw[hW1] at z0 z1;clear kA;by_cases h1:0≤a
 ·by_cases h2:a < 8
  ·by_cases h3:0≤b
   ·have e1:=decide_eq_true h1;have e2:=decide_eq_true h2;have e3:=decide_eq_true h3;obtain⟨B,hB⟩:=exE (decide (b≤1048576));rw[e1,e2,e3,hB];clear h1 h2 h3;go_enter Tryz.func110, Tryz.ntmps110
    go_wp2;go_ret;rw[←hW1];exact⟨by simp,hb1⟩
   ·have e1:=decide_eq_true h1;have e2:=decide_eq_true h2;have e3:=decide_eq_false h3;rw[e1,e2,e3];clear h1 h2 h3;go_enter Tryz.func110, Tryz.ntmps110
    go_wp2;go_ret;rw[←hW1];exact⟨rfl,hb1⟩
  ·have e1:=decide_eq_true h1;have e2:=decide_eq_false h2;rw[e1,e2];clear h1 h2;go_enter Tryz.func110, Tryz.ntmps110
   go_wp2;go_ret;rw[←hW1];exact⟨rfl,hb1⟩
 ·have e1:=decide_eq_false h1;rw[e1];clear h1;go_enter Tryz.func110, Tryz.ntmps110
  go_wp2;go_ret;rw[←hW1];exact⟨rfl,hb1⟩
def oOr1_0:Oper:=⟨some 5,.fieldAddr 83 (.tmp 2) 0,0,"simplex.go:14",#[],none⟩
def oOr1_1:Oper:=⟨some 6,.load 3 (.tmp 5),3,"simplex.go:14",#[⟨0,.data⟩],none⟩
def oOr1_2:Oper:=⟨some 7,.fieldAddr 83 (.tmp 3) 0,0,"simplex.go:14",#[],none⟩
def oOr1_3:Oper:=⟨some 8,.load 3 (.tmp 7),3,"simplex.go:14",#[⟨2,.data⟩],none⟩
def oOr1_4:Oper:=⟨some 9,.call { callee:=.value (.func 177),args:=#[.tmp 6,.tmp 8],argTypes:=#[3,3] },3,"simplex.go:14",#[⟨1,.data⟩,⟨3,.data⟩],none⟩
def oOr1_5:Oper:=⟨some 10,.fieldAddr 83 (.tmp 2) 1,0,"simplex.go:14",#[],none⟩
def oOr1_6:Oper:=⟨some 11,.load 3 (.tmp 10),3,"simplex.go:14",#[⟨5,.data⟩],none⟩
def oOr1_7:Oper:=⟨some 12,.fieldAddr 83 (.tmp 3) 1,0,"simplex.go:14",#[],none⟩
def oOr1_8:Oper:=⟨some 13,.load 3 (.tmp 12),3,"simplex.go:14",#[⟨7,.data⟩],none⟩
def oOr1_9:Oper:=⟨some 14,.call { callee:=.value (.func 177),args:=#[.tmp 11,.tmp 13],argTypes:=#[3,3] },3,"simplex.go:14",#[⟨6,.data⟩,⟨8,.data⟩,⟨4,.chain⟩],none⟩
def oOr1_10:Oper:=⟨some 15,.buildSlice 48 2 #[(0,.tmp 9),(1,.tmp 14)],48,"simplex.go:14",#[⟨4,.data⟩,⟨9,.data⟩],none⟩
def oOr1_11:Oper:=⟨some 16,.call { callee:=.value (.func 176),args:=#[.tmp 15],argTypes:=#[48] },3,"simplex.go:14",#[⟨10,.data⟩,⟨9,.chain⟩],none⟩
def oOr1_12:Oper:=⟨some 4,.assign (.tmp 16),3,"simplex.go:14",#[⟨11,.data⟩,⟨11,.chain⟩,⟨0,.phase⟩,⟨1,.phase⟩,⟨2,.phase⟩,⟨3,.phase⟩,⟨4,.phase⟩,⟨5,.phase⟩,⟨6,.phase⟩,⟨7,.phase⟩,⟨8,.phase⟩,⟨9,.phase⟩,⟨10,.phase⟩,⟨11,.phase⟩],none⟩
def opsOrd1:List Oper:=[oOr1_0,oOr1_1,oOr1_2,oOr1_3,oOr1_4,oOr1_5,oOr1_6,oOr1_7,oOr1_8,oOr1_9,oOr1_10,oOr1_11,oOr1_12]
theorem regOrd1 {w:World}{x0 x1 x4 x5 x6 x7 x8 x9 x10 x11 x12 x13 x14 x15 x16:Value}{Q:Exit→Act→World→Prop}{b2 b3:Nat}{a b c d:Int}
  (p0:w.cell? ⟨b2,0,none⟩=some (.int .i64 a)) (p1:w.cell? ⟨b2,1,none⟩=some (.int .i64 b)) (q0:w.cell? ⟨b3,0,none⟩=some (.int .i64 c)) (q1:w.cell? ⟨b3,1,none⟩=some (.int .i64 d))
  (hfin:∀(y10:Value) (W:World),(Below w.heap.size w W∧w.drawn≤W.drawn)→(∃g,y10 = .slice (some ⟨g,0,none⟩) 2 2∧W.heap[g]? = some (.cells #[.int .i64 (cmpI a c),.int .i64 (cmpI b d)] 3))→Q .normal ⟨#[x0,x1,.pointer (some ⟨b2,0,none⟩),.pointer (some ⟨b3,0,none⟩),.int .i64 (if cmpI a c=0 then cmpI b d else cmpI a c),.pointer (some ⟨b2,0,none⟩),.int .i64 a,.pointer (some ⟨b3,0,none⟩),.int .i64 c,.int .i64 (cmpI a c),.pointer (some ⟨b2,1,none⟩),.int .i64 b,.pointer (some ⟨b3,1,none⟩),.int .i64 d,.int .i64 (cmpI b d),y10,.int .i64 (if cmpI a c=0 then cmpI b d else cmpI a c)],[]⟩ W) :
  (Code.region 1 opsOrd1.toArray true).wp Tryz.prog Q ⟨#[x0,x1,.pointer (some ⟨b2,0,none⟩),.pointer (some ⟨b3,0,none⟩),x4,x5,x6,x7,x8,x9,x10,x11,x12,x13,x14,x15,x16],[]⟩ w:=by
 obtain⟨SG,hSG⟩:=exS (StepG Tryz.prog opsOrd1.toArray (fun ys=>⟨#[x0,x1,.pointer (some ⟨b2,0,none⟩),.pointer (some ⟨b3,0,none⟩),ys 12,ys 0,ys 1,ys 2,ys 3,ys 4,ys 5,ys 6,ys 7,ys 8,ys 9,ys 10,ys 11],[]⟩) [eqV (.pointer (some ⟨b2,0,none⟩)),eqV (.int .i64 a),eqV (.pointer (some ⟨b3,0,none⟩)),eqV (.int .i64 c),eqV (.int .i64 (cmpI a c)),eqV (.pointer (some ⟨b2,1,none⟩)),eqV (.int .i64 b),eqV (.pointer (some ⟨b3,1,none⟩)),eqV (.int .i64 d),eqV (.int .i64 (cmpI b d)),fun W v=>∃g,v = .slice (some ⟨g,0,none⟩) 2 2∧W.heap[g]? = some (.cells #[.int .i64 (cmpI a c),.int .i64 (cmpI b d)] 3),eqV (.int .i64 (if cmpI a c=0 then cmpI b d else cmpI a c)),eqV (.int .i64 (if cmpI a c=0 then cmpI b d else cmpI a c))] (fun W W'=>Below W.heap.size W W') (fun _ _ W=>Below w.heap.size w W∧w.drawn≤W.drawn) Q)
 have st0:SG 0 oOr1_0:=by
  subst hSG;refine StepG.mk rfl fun ys D W K _ _ _ hG hK=>?_;unfold oOr1_0;obtain⟨g1,g2⟩:=hG;go_simp;exact hK _ _ (Below.refl _ _) ⟨g1,g2⟩ rfl
 have st1:SG 1 oOr1_1:=by
  subst hSG;refine StepG.mk rfl (openY 0 fun y0=>fun ys D W K _ _ hd hG hK=>?_);have e0:y0=_:=(hd.get 0 rfl).2;subst e0;simp only[updG,Nat.reduceEqDiff,reduceIte];unfold oOr1_1;obtain⟨g1,g2⟩:=hG;have c:=cell_kept g1 p0;go_simp;exact hK _ _ (Below.refl _ _) ⟨g1,g2⟩ rfl
 have st2:SG 2 oOr1_2:=by
  subst hSG;refine StepG.mk rfl fun ys D W K _ _ _ hG hK=>?_;unfold oOr1_2;obtain⟨g1,g2⟩:=hG;go_simp;exact hK _ _ (Below.refl _ _) ⟨g1,g2⟩ rfl
 have st3:SG 3 oOr1_3:=by
  subst hSG;refine StepG.mk rfl (openY 2 fun y2=>fun ys D W K _ _ hd hG hK=>?_);have e2:y2=_:=(hd.get 2 rfl).2;subst e2;simp only[updG,Nat.reduceEqDiff,reduceIte];unfold oOr1_3;obtain⟨g1,g2⟩:=hG;have c:=cell_kept g1 q0;go_simp;exact hK _ _ (Below.refl _ _) ⟨g1,g2⟩ rfl
 have st4:SG 4 oOr1_4:=by
  subst hSG;refine StepG.mk rfl (openY 1 fun y1=>openY 3 fun y3=>fun ys D W K _ _ hd hG hK=>?_);have e1:y1=_:=(hd.get 1 rfl).2;have e3:y3=_:=(hd.get 3 rfl).2;subst e1 e3;simp only[updG,Nat.reduceEqDiff,reduceIte];unfold oOr1_4;obtain⟨g1,g2⟩:=hG;go_simp;refine(cmpInt a c W).mono ?_;rintro e W9 ⟨rfl,rfl⟩;exact hK _ _ (Below.refl _ _) ⟨g1,g2⟩ rfl
 have st5:SG 5 oOr1_5:=by
  subst hSG;refine StepG.mk rfl fun ys D W K _ _ _ hG hK=>?_;unfold oOr1_5;obtain⟨g1,g2⟩:=hG;go_simp;exact hK _ _ (Below.refl _ _) ⟨g1,g2⟩ rfl
 have st6:SG 6 oOr1_6:=by
  subst hSG;refine StepG.mk rfl (openY 5 fun y5=>fun ys D W K _ _ hd hG hK=>?_);have e5:y5=_:=(hd.get 5 rfl).2;subst e5;simp only[updG,Nat.reduceEqDiff,reduceIte];unfold oOr1_6;obtain⟨g1,g2⟩:=hG;have c:=cell_kept g1 p1;go_simp;exact hK _ _ (Below.refl _ _) ⟨g1,g2⟩ rfl
 have st7:SG 7 oOr1_7:=by
  subst hSG;refine StepG.mk rfl fun ys D W K _ _ _ hG hK=>?_;unfold oOr1_7;obtain⟨g1,g2⟩:=hG;go_simp;exact hK _ _ (Below.refl _ _) ⟨g1,g2⟩ rfl
 have st8:SG 8 oOr1_8:=by
  subst hSG;refine StepG.mk rfl (openY 7 fun y7=>fun ys D W K _ _ hd hG hK=>?_);have e7:y7=_:=(hd.get 7 rfl).2;subst e7;simp only[updG,Nat.reduceEqDiff,reduceIte];unfold oOr1_8;obtain⟨g1,g2⟩:=hG;have c:=cell_kept g1 q1;go_simp;exact hK _ _ (Below.refl _ _) ⟨g1,g2⟩ rfl
 have st9:SG 9 oOr1_9:=by
  subst hSG;refine StepG.mk rfl (openY 6 fun y6=>openY 8 fun y8=>fun ys D W K _ _ hd hG hK=>?_);have e6:y6=_:=(hd.get 6 rfl).2;have e8:y8=_:=(hd.get 8 rfl).2;subst e6 e8;simp only[updG,Nat.reduceEqDiff,reduceIte];unfold oOr1_9;obtain⟨g1,g2⟩:=hG;go_simp;refine(cmpInt b d W).mono ?_;rintro e W9 ⟨rfl,rfl⟩;exact hK _ _ (Below.refl _ _) ⟨g1,g2⟩ rfl
 have st10:SG 10 oOr1_10:=by
  subst hSG;refine StepG.mk rfl (openY 4 fun y4=>openY 9 fun y9=>fun ys D W K _ _ hd hG hK=>?_);have e4:y4=_:=(hd.get 4 rfl).2;have e9:y9=_:=(hd.get 9 rfl).2;subst e4 e9;simp only[updG,Nat.reduceEqDiff,reduceIte];unfold oOr1_10;obtain⟨g1,g2⟩:=hG;go_simp;exact hK _ _ ((Below.refl _ W).alloc (Nat.le_refl _) _) ⟨btt g1 ((Below.refl _ W).alloc (Nat.le_refl _) _),g2⟩ ⟨_,rfl,heap_alloc_new W _⟩
 have st11:SG 11 oOr1_11:=by
  subst hSG;refine StepG.mk rfl (openY 10 fun y10=>fun ys D W K _ _ hd hG hK=>?_);obtain⟨d10,e10⟩:D 10=true∧(∃g,y10 = .slice (some ⟨g,0,none⟩) 2 2∧W.heap[g]? = some (.cells #[.int .i64 (cmpI a c),.int .i64 (cmpI b d)] 3)):=hd.get 10 rfl;simp only[updG,Nat.reduceEqDiff,reduceIte];unfold oOr1_11;obtain⟨g,e10,h10⟩:=(hd.get 10 rfl).2;subst e10;obtain⟨g1,g2⟩:=hG;obtain⟨z0,z1⟩:=boxL2 h10;go_simp;refine(orInt z0 z1).mono ?_;rintro e W9 ⟨rfl,rfl⟩;exact hK _ _ (Below.refl _ _) ⟨g1,g2⟩ rfl
 have st12:SG 12 oOr1_12:=by
  subst hSG;refine StepG.mk rfl (openY 11 fun y11=>fun ys D W K _ _ hd hG hK=>?_);have e11:y11=_:=(hd.get 11 rfl).2;subst e11;simp only[updG,Nat.reduceEqDiff,reduceIte];unfold oOr1_12;obtain⟨g1,g2⟩:=hG;go_simp;exact hK _ _ (Below.refl _ _) ⟨g1,g2⟩ rfl
 subst hSG;refine wp_region_sg (l:=opsOrd1) ⟨st0,st1,st2,st3,st4,st5,st6,st7,st8,st9,st10,st11,st12,trivial⟩ (fun i=>([x5,x6,x7,x8,x9,x10,x11,x12,x13,x14,x15,x16,x4]:List Value).getD i undef) (by kernel_rfl) (by kernel_rfl) ⟨sE,sE,sE,sE,sE,sE,sE,sE,sE,sE,fun W W' v ⟨g,e,h⟩ r=>⟨g,e,keptO r h⟩,sE,sE,trivial⟩ ?g0 ?gx ?fin
 case g0=>exact⟨below_drewN (Below.refl _ w) 1,Nat.le_add_right _ _⟩
 case gx=>exact fun D D' ys W h hG=>hG
 case fin=>
  intro ys W hG hp;try dsimp only
  rw[(hp 0 (by decide):ys 0=_),(hp 1 (by decide):ys 1=_),(hp 2 (by decide):ys 2=_),(hp 3 (by decide):ys 3=_),(hp 4 (by decide):ys 4=_),(hp 5 (by decide):ys 5=_),(hp 6 (by decide):ys 6=_),(hp 7 (by decide):ys 7=_),(hp 8 (by decide):ys 8=_),(hp 9 (by decide):ys 9=_),(hp 11 (by decide):ys 11=_),(hp 12 (by decide):ys 12=_)];exact hfin (ys 10) W hG (hp 10 (by decide))
theorem two {x:List Int}(h:x.length=2):∃a b,x = [a,b]:=by
 match x,h with
 | [a,b],_=>exact⟨a,b,rfl⟩
theorem CI.all2 {w:World}{b o:Nat}{x0 x1:Int}(h:CI w b o [x0,x1]):w.cell? ⟨b,o,none⟩=some (.int .i64 x0)∧w.cell? ⟨b,o+1,none⟩=some (.int .i64 x1):=
 ⟨h 0 (by simp),h 1 (by simp)⟩
theorem eqVxE (d:Nat) (a b a' b':Int) (w:World):(Op.equalIn (d+2) 83 (.agg #[.int .i64 a,.int .i64 b]) (.agg #[.int .i64 a',.int .i64 b'])).run Tryz.prog w = .ok (eqL [a,b] [a',b']) w:=by
 have u3:=Tryz.underlying3;have a3:=Tryz.isAgg3;have z3:=Tryz.sizeOf3;have hS : Tryz.prog.underlying 83=some (.struct (Tryz.prog.fieldsOf 83)):=by kernel_rfl
 have hp : Tryz.prog.stoodInHeld 83=false:=by kernel_rfl
 rw[show d+2=(d+1)+1 from rfl,run_equalIn_agg w (d+1) 83 _ _ hS hp];simp only[Program.fieldsOf,Tryz.underlying83];go_simp;by_cases h0:a=a'<;>by_cases h1:b=b'<;>simp_all [eqL]
@[go_sem high] theorem eqVxE' (a b a' b':Int) (w:World):(Op.equalIn 10000 83 (.agg #[.int .i64 a,.int .i64 b]) (.agg #[.int .i64 a',.int .i64 b'])).run Tryz.prog w = .ok (eqL [a,b] [a',b']) w:=eqVxE 9998 a b a' b' w
theorem cmpL_two (a b c d:Int):cmpL [a,b] [c,d]=if cmpI a c=0 then cmpI b d else cmpI a c:=by
 by_cases h:cmpI a c=0
 ·rw[if_pos h,cmpL_hd h];by_cases k:cmpI b d=0
  ·rw[cmpL_hd k,k];rfl
  ·rw[cmpL_ne k]
 ·rw[if_neg h,cmpL_ne h]
theorem orderC (a b c d:Int) (w:World):Calls Tryz.prog 111 #[.agg #[.int .i64 a,.int .i64 b],.agg #[.int .i64 c,.int .i64 d]] w fun e w'=>e = .returned (.int .i64 (cmpL [a,b] [c,d]))∧Below w.heap.size w w'∧w.drawn≤w'.drawn:=by
 obtain⟨W1,hW1⟩:=exF ((w.alloc (.cells #[.int .i64 a,.int .i64 b] 83)).alloc (.cells #[.int .i64 c,.int .i64 d] 83));have hb1:Below w.heap.size w W1:=by rw[hW1];exact((Below.refl _ w).alloc (Nat.le_refl _) _).alloc (by simp) _
 have hd1:Hid (w.drawn=W1.drawn):=by show _=_;rw[hW1];rfl
 have kA:W1.heap[w.heap.size]? = some (.cells #[.int .i64 a,.int .i64 b] 83):=by
  rw[hW1];exact(Below.heap_alloc _ _ _ (by simp)).trans (heap_alloc_new w _)
 have kB:W1.heap[w.heap.size+1]? = some (.cells #[.int .i64 c,.int .i64 d] 83):=by
  rw[hW1];have:=heap_alloc_new (w.alloc (.cells #[.int .i64 a,.int .i64 b] 83)) (.cells #[.int .i64 c,.int .i64 d] 83)
  rwa [World.size_alloc] at this
 have hA:=qH (boxL2 kA);have hB:=qH (boxL2 kB);clear kA kB;rw[cmpL_two];obtain⟨E,hE⟩:∃E,(if cmpI a c=0 then cmpI b d else cmpI a c)=E:=⟨_,rfl⟩;have hE2:=qH hE;rw[hE];clear hE;go_enter Tryz.func111, Tryz.ntmps111
 go_upto_region 1 with fail
 rw[←hW1];replace hW1:=qH hW1;refine regOrd1 (a:=a) (b:=b) (c:=c) (d:=d) hA.out.1 hA.out.2 hB.out.1 hB.out.2 ?_;rintro y10 W2 ⟨g1,g2⟩ -;rw[hE2.out];have hs:=hb1.size;go_wp2;go_ret;exact⟨rfl,hb1.trans (g1.mono hs),by rw[hd1.out];exact g2⟩
def chkR:List Int→List (List Int)→Int
 | _,[]=>0
 | p,x::r=>if posV x=false then 2 else if 0≤cmpL p x then 14 else chkR x r
def chkS (s:List (List Int)):Int:=
 if s.length=0 then 16 else if 8 < s.length then 5 else
 match s with
 | []=>0
 | x::r=>if posV x=false then 2 else chkR x r
theorem checkS {w:World}{v:Value}{s:List (List Int)}(h:KS 2 w v s):Calls Tryz.prog 61 #[v] w fun e w'=>e = .returned (.int .i64 (chkS s))∧Below w.heap.size w w':=by
 have hmx : Tryz.prog.follows .mixedOrders=true:=by kernel_rfl
 obtain⟨va,vc,vb,vo,rfl,ha,hc,-⟩:=h;by_cases h0:s.length=0
 ·have hE:chkS s=16:=by unfold chkS;rw[if_pos h0]
  rw[hE,h0];clear hE hc;go_enter Tryz.func61, Tryz.ntmps61
  go_wp2;go_ret;exact⟨rfl,Below.refl _ w⟩
 by_cases h8:8 < s.length
 ·have hE:chkS s=5:=by unfold chkS;rw[if_neg h0,if_pos h8]
  have d1:((s.length:Int) == 0)=false:=by simpa using h0
  have d2:decide ((8:Int) < (s.length:Int))=true:=decide_eq_true (by omega);rw[hE];clear hE hc;go_enter Tryz.func61, Tryz.ntmps61
  go_wp2;go_ret;exact⟨rfl,Below.refl _ w⟩
 obtain rfl:=ha (by omega);obtain⟨n,hn⟩:=exE (s.length);have d1:((n:Int) == 0)=false:=by simp;omega
 have d2:decide ((8:Int) < (n:Int))=false:=decide_eq_false (by omega);obtain⟨E,hE⟩:=exE (chkS s)
 have hst:Hid ((if posV (s.getD 0 [])=false then (2:Int) else chkR (s.getD 0 []) (s.drop 1))=E):=by
  show _=_;rw[←hE];unfold chkS;rw[if_neg h0,if_neg h8];cases s with
  | nil=>exact absurd rfl h0
  | cons x r=>rfl
 have hstep:Hid (∀i,i < n→chkR (s.getD (i - 1) []) (s.drop i)=if posV (s.getD i [])=false then 2 else if 0≤cmpL (s.getD (i - 1) []) (s.getD i []) then 14 else chkR (s.getD i []) (s.drop (i+1))):=fun i hi=>by
  have e:s.getD i []=s[i]'(by rw[hn];exact hi):=getD_eq (by rw[hn];exact hi) [];rw[List.drop_eq_getElem_cons (by omega),chkR,e]
 have hend:Hid (chkR (s.getD (n - 1) []) (s.drop n)=0):=by
  show _=_;rw[List.drop_eq_nil_of_le (by omega),chkR]
 have hcl:=qH hc;have hnh:=qH hn;rw[hE,hn];have hi0:0 < n:=by omega
 have hn8:n≤8:=by omega
 replace hE:=qH hE;clear hc hn h0 h8;go_enter Tryz.func61, Tryz.ntmps61
 go_wp2_with fail
 go_loopw [15] (fun iv wr=>∃i:Nat,iv = .int .i64 i∧i≤n∧Hid (0 < i→chkR (s.getD (i - 1) []) (s.drop i)=E)∧Below w.heap.size w wr) (fun iv _=>n - (intOf iv).toNat)
 case atStart=>exact⟨0,rfl,by omega,fun h=>absurd h (Nat.lt_irrefl _),Below.refl _ w⟩
 case round=>
  obtain⟨i,rfl,hi,hg,hbr⟩:=hrel;by_cases hlt:i < n
  ·have hii:(i:Int) < (n:Int):=(by omega);obtain⟨x2,xi⟩:=hcl.out i (by rw[hnh.out];exact hlt);obtain⟨x,hx⟩:=exE (s.getD i []);rw[hx] at x2 xi;have hsi:=hstep.out i hlt;rw[hx] at hsi;obtain⟨a,b,rfl⟩:=two x2;obtain⟨c0,c1⟩:=xi.all2;replace c0:=cell_kept hbr c0;replace c1:=cell_kept hbr c1;clear xi x2;obtain⟨W2,hW2⟩:=exF (wr.alloc (.cells #[.int .i64 a,.int .i64 b] 83));have hbw:Below wr.heap.size wr W2:=(by rw[hW2];exact(Below.refl _ _).alloc (Nat.le_refl _) _);have kA:W2.heap[wr.heap.size]? = some (.cells #[.int .i64 a,.int .i64 b] 83):=(by rw[hW2];exact heap_alloc_new _ _);have HKA:=qH (fun W (hb:Below W2.heap.size W2 W)=>boxL2 (keptO hb kA));obtain⟨z0,z1⟩:=boxL2 kA;rw[hW2] at z0 z1;have hb2:=btt hbr hbw;clear kA;obtain⟨B,hB⟩:=exE (posV [a,b]);have HP:=fun W=>possibleC a b W;rw[hB] at HP hsi;replace HP:=qH HP;cases B
   ·have hE2:Hid (E=2):=by
     show _=_;rw[if_pos rfl] at hsi;rcases Nat.eq_zero_or_pos i with h|h
     ·subst h;have:=hst.out
      rw[hx,hB,if_pos rfl] at this;exact this.symm
     ·exact(hg.out h).symm.trans hsi
    clear hx hB hsi;go_wp2_with fail
    rw[←hW2];replace hW2:=qH hW2;refine(HP.out W2).mono ?_;rintro e w3 ⟨rfl,hb3⟩;go_wp2;go_ret;exact⟨by rw[hE2.out];rfl,btt hb2 hb3⟩
   ·rw[if_neg (by decide)] at hsi;rcases Nat.eq_zero_or_pos i with h|h
    ·have hnx:Hid (0 < i+1→chkR (s.getD (i+1 - 1) []) (s.drop (i+1))=E):=fun _=>by
      have:=hst.out
      subst h;rw[hx,hB,if_neg (by decide)] at this;rw[show 0+1 - 1=0 from rfl,hx];exact this
     have hpos:decide ((0:Int) < (i:Int))=false:=decide_eq_false (by omega);have hp0 : ¬0 < i:=(by omega);replace h:=qH h;clear hx hB hsi;go_wp2_with fail
     rw[←hW2];replace hW2:=qH hW2;refine(HP.out W2).mono ?_;rintro e w3 ⟨rfl,hb3⟩;go_wp2_with fail
     refine wp_region_bw hmx (by kernel_rfl) ?_
     repeat (refine WQ.step fun K hK=>?_;go_simp;first|(refine hK _ ?_;clear hK K)|(apply Exists.intro;refine⟨fun wq hC=>?_,hK _ ?_⟩;(·(first|with_reducible rfl|(go_simp;first|done|with_reducible rfl|with_reducible exact⟨rfl,rfl⟩)));clear hK K))
     refine WQ.nil ?_;intro w4 hb4;go_wp2_with fail
     go_roundw
     case rel=>exact⟨i+1,by go_num,by omega,hnx,btt (btt hb2 hb3) hb4⟩
     case measure=>simp[intOf];omega
    ·obtain⟨y2,yi⟩:=hcl.out (i - 1) (by rw[hnh.out];omega);obtain⟨y,hy⟩:=exE (s.getD (i - 1) []);rw[hy] at y2 yi hsi;obtain⟨c,d,rfl⟩:=two y2;have hg2:=hg.out h;rw[hy] at hg2;rw[hg2] at hsi;obtain⟨q0,q1⟩:=yi.all2;have HKB:=qH (fun W (hb:Below w.heap.size w W)=>And.intro (cell_kept hb q0) (cell_kept hb q1));have HO:=fun W=>orderC c d a b W;obtain⟨Z,hZ⟩:=exE (cmpL [c,d] [a,b]);rw[hZ] at HO hsi;replace HO:=qH HO;have hsub:IntKind.i64.wrap ((i:Int) - 1)=((i - 1:Nat):Int):=(by rw[show(i:Int) - 1=((i - 1:Nat):Int) by omega];exact IntWalk.i64_in _ (by omega));have hpos:decide ((0:Int) < (i:Int))=true:=decide_eq_true (by omega);have hp0:0 < i:=h;have hlt2:((i - 1:Nat):Int) < (n:Int):=(by omega);have hnn:(0:Int)≤((i - 1:Nat):Int):=Int.natCast_nonneg _;obtain⟨j,hj⟩:=exE (i - 1);rw[hj] at HKB hsub hlt2 hnn;replace hj:=qH hj;obtain⟨C,hC⟩:=exE (decide (0≤Z))
     have hnx:Hid (C=false→0 < i+1→chkR (s.getD (i+1 - 1) []) (s.drop (i+1))=E):=fun hC' _=>by
      rw[Nat.add_sub_cancel,hx,hsi,if_neg (of_decide_eq_false (hC.trans hC'))]
     have hEx:Hid (C=true→E=14):=fun hC'=>by
      rw[hsi,if_pos (of_decide_eq_true (hC.trans hC'))]
     have hih:=qH h;clear hx hB hsi hZ hy hg2 q0 q1 yi y2 hg h;go_wp2_with fail
     rw[←hW2];replace hW2:=qH hW2;refine(HP.out W2).mono ?_;rintro e w3 ⟨rfl,hb3⟩;go_wp2_with fail
     refine wp_region_bw hmx (by kernel_rfl) ?_;have hb23:=btt hb2 hb3;clear z0 z1 c0 c1
     repeat (refine WQ.step fun K hK=>?_;go_simp;first|(refine hK _ ?_;clear hK K)|(apply Exists.intro;refine⟨fun wq hC=>?_,hK _ ?_⟩;(·(first|with_reducible rfl|(obtain⟨q0,q1⟩:=HKB.out wq (btt hb23 hC);obtain⟨z0,z1⟩:=HKA.out wq (btt hb3 hC);go_simp;first|done|with_reducible rfl|with_reducible exact⟨rfl,rfl⟩)));clear hK K))
     (refine WQ.step fun K hK=>?_;go_simp;first|(refine hK _ ?_;clear hK K)|(apply Exists.intro;refine⟨fun wq hC=>?_,hK _ ?_⟩;(·(refine(HO.out wq).mono ?_;rintro e w' ⟨rfl,hb',-⟩;exact⟨rfl,btt hC hb'⟩));clear hK K))
     repeat (refine WQ.step fun K hK=>?_;go_simp;first|(refine hK _ ?_;clear hK K)|(apply Exists.intro;refine⟨fun wq hC=>?_,hK _ ?_⟩;(·(first|with_reducible rfl|(go_simp;first|done|with_reducible rfl|with_reducible exact⟨rfl,rfl⟩)));clear hK K))
     refine WQ.nil ?_;intro w4 hb4;clear hC;cases C
     ·go_wp2_with fail
      go_roundw
      case rel=>exact⟨i+1,by go_num,by omega,hnx.out (by first|rfl|trivial),btt hb23 hb4⟩
      case measure=>simp[intOf];omega
     ·go_wp2;go_ret;exact⟨by rw[hEx.out (by first|rfl|trivial)];rfl,btt hb23 hb4⟩
  ·obtain rfl:i=n:=(by omega);have hEz:Hid (E=0):=(by show _=_;rw[←hg.out hi0];exact hend.out);clear hg;go_wp2;go_ret;exact⟨by rw[hEz.out];rfl,hbr⟩
end Go.Proofs.YtcnedkkcgdkioaaGreat
namespace Go.Proofs.YtcnedkkcgdkioaaGreat
open Go.RowKit Go.ChangeMaps Go.MapKept Go.WideMaps
section
variable {α:Type} {E:TypeId} {k:Nat} {El:World→List Value→α→Prop} {B n:Nat} {v:Value} {xs:List α}
theorem wpList_appX {P:Program}{T:TypeId}{z:Value}{bytes:Nat}(hE:ElemK P T E z k bytes) (hby:bytes≤128) (hk:0 < k) (hS:Stab E El) {w:World}{cs:List Value}{x:α}{ops:Array Oper}{rest:List Oper}{o:Oper}{a:Act}{Q:Exit→Act→World→Prop}(hgd:o.guard=none) (s y:Operand)
  (ho:o.op = .call { callee:=.builtin .append,args:=#[s,y],argTypes:=#[T,T] }) (hs:a.eval s=v) (hown:OwX E k El w B v n xs) (ad:Addr) (c:Nat) (hx:a.eval y = .slice (some ad) 1 c) (hcs:cs.length=k)
  (hnews:∀j u,cs[j]? = some u→w.cell? (ad.add j)=some u) (hc1:∀u∈cs,u.oneCell'=true) (hEl:El w cs x) (hn:n≤1000000000000) (hB:B≤w.heap.size)
  (h:∀v' w',OwX E k El w' B v' (n+1) (xs ++ [x])→w.grownBy w' v.ownBlock→NewAt w v v'→Below B w w'→KeepX E w w'→wpList P ops Q rest (a.put o.dst v') w'):wpList P ops Q (o::rest) a w:=
 wpList_plain hgd fun _ hK=>wp_appX hE hby hk hS s y ho hs hown ad c hx hcs hnews hc1 hEl hn hB fun v' w' h1 h2 h3 h4 h5=>hK _ _ (h v' w' h1 h2 h3 h4 h5)
end
theorem Apart.ne {u v:Value}(h:Apart u v):u.ownBlock=none∨u.ownBlock ≠ v.ownBlock:=by
 cases hu:u.ownBlock with
 | none=>exact .inl rfl
 | some a=>exact .inr fun e=>h a a hu e.symm rfl
theorem OI.kept {w w':World}{row:Option Nat}{B:Nat}{v:Value}{n:Nat}{xs:List Int}(h:OI w B v n xs) (hg:w.grownBy w' row) (hne:v.ownBlock=none∨v.ownBlock ≠ row):OI w' B v n xs:=World.ownsRow.kept h hg hne
theorem setBlock_keep {w:World}{b k:Nat}(o:Obj) (h:k ≠ b):(setBlock w b o).heap[k]? = w.heap[k]?:=by
 simp only[setBlock];rw[Array.getElem?_setIfInBounds_ne (by omega)]
theorem keepX_map {E:TypeId}{w:World}{b:Nat}{es:Array MapEntry}{c:Nat}(h:w.heap[b]? = some (.map es c)) (o:Obj):KeepX E w (setBlock w b o):=fun k cs t hk _=>by
 refine setBlock_keep o fun e=>?_;subst e;rw[hk] at h;cases h
section
variable {κ:Type}
def MS (kv:κ→Value) (w:World) (b:Nat) (m:List (κ × Value)):Prop:=
 ∃es clock,w.heap[b]? = some (.map es clock)∧es.toList.map (fun e=>(e.key,e.val))=m.map (fun p=>(kv p.1,p.2))∧(es.toList.map (·.born)).Nodup∧∀e∈es.toList,e.born < clock
variable {P:Program} {K E M:TypeId} {kv:κ→Value} {S:κ→Prop} {m:List (κ × Value)} {x:κ} {w:World} {b:Nat}
theorem MS.mx (h:MS kv w b m):MX kv (id:Value→Value) w b m:=by
 obtain⟨es,c,h1,h2,_⟩:=h;exact⟨es,c,h1,h2⟩
theorem MS.lt (h:MS kv w b m):b < w.heap.size:=h.mx.lt
theorem MS.keep {w':World}(h:MS kv w b m) (hb:w'.heap[b]? = w.heap[b]?):MS kv w' b m:=by
 obtain⟨es,clock,h1,h2⟩:=h;exact⟨es,clock,hb.trans h1,h2⟩
theorem MS.made (w:World):MS kv (w.alloc (.map #[] 0)) w.heap.size []:=⟨#[],0,heap_alloc_new w _,rfl,by simp,by simp⟩
theorem MS.entry {z:Value}(hX:KeyX P K kv S) (hM:P.underlying M=some (.map K E)) (hz:∀u:World,(zeroValue E).run P u = .ok z u) (h:MS kv w b m) (hm:∀p∈m,S p.1) (hx:S x) :
  ∃(v0:Value) (st:Nat) (es1:Array MapEntry) (c1:Nat),(Instr.mapEntry M (.map (some b)) (kv x)).run P w = .ok (.tuple #[v0,goInt st]) (setBlock w b (.map es1 c1))∧
   ((x ∉ m.map Prod.fst∧v0=z∧∀(w2:World) (val:Value),w2.heap[b]? = some (.map es1 c1)→∃es2 c2,(Instr.entryStore M (.map (some b)) (goInt st) val).run P w2 = .ok () (setBlock w2 b (.map es2 c2))∧MS kv (setBlock w2 b (.map es2 c2)) b (m ++ [(x,val)]))∨
    (∃j,m[j]? = some (x,v0)∧∀(w2:World) (val:Value),w2.heap[b]? = some (.map es1 c1)→∃es2 c2,(Instr.entryStore M (.map (some b)) (goInt st) val).run P w2 = .ok () (setBlock w2 b (.map es2 c2))∧MS kv (setBlock w2 b (.map es2 c2)) b (m.set j (x,val)))):=by
 obtain⟨es,clock,hb,hk,s2,s1⟩:=h;obtain⟨lx,hlx⟩:=hX.has x hx;have hc:=hX.law.check w false hlx;have hfi:=MX.find (vv:=(id:Value→Value)) hX hm hx hk w;rcases hfi with⟨h1,h2⟩|⟨j,v,h1,h2,h3⟩
 ·refine⟨z,clock,es.push ⟨kv x,z,clock⟩,clock+1,?_,.inl ⟨h1,rfl,fun w2 val hw2=>⟨es.push ⟨kv x,val,clock⟩,clock+1,?_,_,_,heap_setBlock_same hw2 _,?_,?_,?_⟩⟩⟩
  ·simp[Instr.mapEntry,run_underlying hM,MapKept.run_getObj_map hb,hc,h2,hz,MapKept.run_setObj_map _ hb,Result.andThen,setBlock]
  ·have hidx:(es.push ⟨kv x,z,clock⟩).findIdx? (fun e=>((e.born:Nat):Int) == ((clock:Nat):Int))=some es.size:=by
    rw[Go.WideElems.findIdx_arr]
    exact Go.WideElems.findIdx_born (l:=(es.push ⟨kv x,z,clock⟩).toList) (j:=es.size) (e0:=⟨kv x,z,clock⟩) (by
     simp only[Array.toList_push,List.map_append,List.map_cons,List.map_nil];refine List.nodup_append.2 ⟨s2,by simp,fun a ha c hc e1=>?_⟩;simp only[List.mem_singleton] at hc;obtain⟨y,hy,rfl⟩:=List.mem_map.1 ha;have:=s1 y hy
     omega) (by simp)
   have hmod:(es.push ⟨kv x,z,clock⟩).modify es.size (fun e=>{ e with val:=val })=es.push ⟨kv x,val,clock⟩:=by
    apply Array.ext'
    rw[Array.toList_modify,Array.toList_push,Array.toList_push,←Array.length_toList,Go.WideElems.modify_last]
   simp[Instr.entryStore,MapKept.run_getObj_map hw2,asInt,asIntOf,goInt,hidx,hmod,MapKept.run_setObj_map _ hw2,Result.andThen,setBlock]
  ·rw[Array.toList_push,List.map_append,hk,List.map_append];rfl
  ·rw[Array.toList_push,List.map_append];refine List.nodup_append.2 ⟨s2,by simp,fun a ha c hc e1=>?_⟩;simp only[List.map_cons,List.map_nil,List.mem_singleton] at hc;obtain⟨y,hy,rfl⟩:=List.mem_map.1 ha;have:=s1 y hy
   omega
  ·intro e he;rw[Array.toList_push] at he;rcases List.mem_append.1 he with he|he
   ·have:=s1 e he;omega
   ·obtain rfl:=List.mem_singleton.1 he;exact Nat.lt_succ_self _
 ·have hl:(es.toList.map (fun e:MapEntry=>(e.key,e.val)))[j]? = some (kv x,v):=by rw[hk,List.getElem?_map,h3];rfl
  rw[List.getElem?_map] at hl
  obtain⟨e0,h4,h5⟩:∃e0,es.toList[j]? = some e0∧(e0.key,e0.val)=(kv x,v):=by
   cases he:es.toList[j]? with
   | none=>rw[he] at hl;cases hl
   | some e0=>rw[he] at hl;exact⟨e0,rfl,Option.some.inj hl⟩
  injection h5 with h5 h6;have hj:es[j]? = some e0:=by simpa using h4
  have hsame:es.modify j (fun e=>{ e with key:=kv x })=es:=by
   apply Array.ext'
   rw[Array.toList_modify,modify_eq_set _ _ _ _ h4];have:({ e0 with key:=kv x }:MapEntry)=e0:=by rw[←h5]
   rw[this];exact Go.WideElems.set_self _ _ _ h4
  have htl:∀val,(es.modify j (fun e'=>{ e' with key:=kv x,val:=val })).toList=es.toList.set j { e0 with key:=kv x,val:=val }:=fun val=>by
   rw[Array.toList_modify,modify_eq_set _ _ _ _ h4]
  refine⟨v,e0.born,es,clock,?_,.inr ⟨j,h3,fun w2 val hw2=>⟨es.modify j (fun e'=>{ e' with key:=kv x,val:=val }),clock,?_,_,_,heap_setBlock_same hw2 _,?_,?_,?_⟩⟩⟩
  ·have h2':(Instr.findKey K (kv x) es.toList).run P w = .ok (some (j,v)) w:=h2;simp[Instr.mapEntry,run_underlying hM,MapKept.run_getObj_map hb,hc,h2',hj,h5,hX.law.stays w hlx,hsame,MapKept.run_setObj_map _ hb,Result.andThen,setBlock]
  ·have hidx:es.findIdx? (fun e=>((e.born:Nat):Int) == ((e0.born:Nat):Int))=some j:=by
    rw[Go.WideElems.findIdx_arr];exact Go.WideElems.findIdx_born s2 h4
   have hmod:es.modify j (fun e=>{ e with val:=val })=es.modify j (fun e'=>{ e' with key:=kv x,val:=val }):=by
    apply Array.ext'
    rw[Array.toList_modify,Array.toList_modify,modify_eq_set _ _ _ _ h4,modify_eq_set _ _ _ _ h4,←h5]
   simp[Instr.entryStore,MapKept.run_getObj_map hw2,asInt,asIntOf,goInt,hidx,hmod,MapKept.run_setObj_map _ hw2,Result.andThen,setBlock]
  ·rw[htl,List.map_set,hk,List.map_set]
  ·rw[htl,List.map_set];have:(es.toList.map (·.born)).set j e0.born=es.toList.map (·.born):=Go.WideElems.set_self _ _ _ (by rw[List.getElem?_map,h4];rfl)
   rw[this];exact s2
  ·intro e he;rw[htl] at he;rcases List.mem_or_eq_of_mem_set he with he|rfl
   ·exact s1 e he
   ·exact s1 e0 (List.mem_of_getElem? h4)
end
end Go.Proofs.YtcnedkkcgdkioaaGreat
