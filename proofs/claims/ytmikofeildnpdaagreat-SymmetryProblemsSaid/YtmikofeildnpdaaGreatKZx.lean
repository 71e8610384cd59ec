/- Texts of this claim, put together: YD0. -/
import Derived.Test.YtmikofeildnpdaaGreatKZt

set_option maxRecDepth 100000
set_option maxHeartbeats 12800000
namespace Go.Proofs.YtmikofeildnpdaaGreat
open Go.RowKit
def oRe9_0:Oper:=⟨some 32,.fieldAddr 24 (.tmp 2) 1,0,"ref.go:30",#[],none⟩
def oRe9_1:Oper:=⟨some 33,.load 22 (.tmp 32),22,"ref.go:30",#[⟨0,.data⟩],none⟩
def oRe9_2:Oper:=⟨some 34,.move (.tmp 6),3,"ref.go:30",#[],none⟩
def oRe9_3:Oper:=⟨some 35,.indexAddr 22 (.tmp 33) (.tmp 34),0,"ref.go:30",#[⟨1,.data⟩,⟨2,.data⟩],none⟩
def oRe9_4:Oper:=⟨some 36,.load 98 (.tmp 35),98,"ref.go:30",#[⟨3,.data⟩],none⟩
def oRe9_5:Oper:=⟨some 37,.move (.tmp 8),3,"ref.go:30",#[],none⟩
def oRe9_6:Oper:=⟨some 38,.indexAddr 98 (.tmp 36) (.tmp 37),0,"ref.go:30",#[⟨4,.data⟩,⟨5,.data⟩],none⟩
def oRe9_7:Oper:=⟨some 39,.fieldAddr 100 (.tmp 38) 0,0,"ref.go:30",#[⟨6,.data⟩],none⟩
def oRe9_8:Oper:=⟨some 40,.load 87 (.tmp 39),87,"ref.go:30",#[⟨7,.data⟩],none⟩
def oRe9_9:Oper:=⟨some 41,.move (.tmp 1),25,"ref.go:30",#[],none⟩
def oRe9_10:Oper:=⟨some 42,.call { callee:=.value (.func 102),args:=#[.tmp 40,.tmp 41],argTypes:=#[87,25] },87,"ref.go:30",#[⟨8,.data⟩,⟨9,.data⟩],none⟩
def oRe9_11:Oper:=⟨some 43,.fieldAddr 24 (.tmp 2) 1,0,"ref.go:30",#[],none⟩
def oRe9_12:Oper:=⟨some 44,.load 22 (.tmp 43),22,"ref.go:30",#[⟨11,.data⟩],none⟩
def oRe9_13:Oper:=⟨some 45,.move (.tmp 6),3,"ref.go:30",#[],none⟩
def oRe9_14:Oper:=⟨some 46,.indexAddr 22 (.tmp 44) (.tmp 45),0,"ref.go:30",#[⟨12,.data⟩,⟨13,.data⟩],none⟩
def oRe9_15:Oper:=⟨some 47,.load 98 (.tmp 46),98,"ref.go:30",#[⟨14,.data⟩],none⟩
def oRe9_16:Oper:=⟨some 48,.move (.tmp 8),3,"ref.go:30",#[],none⟩
def oRe9_17:Oper:=⟨some 49,.indexAddr 98 (.tmp 47) (.tmp 48),0,"ref.go:30",#[⟨15,.data⟩,⟨16,.data⟩],none⟩
def oRe9_18:Oper:=⟨some 50,.fieldAddr 100 (.tmp 49) 1,0,"ref.go:30",#[⟨17,.data⟩],none⟩
def oRe9_19:Oper:=⟨some 51,.load 3 (.tmp 50),3,"ref.go:30",#[⟨18,.data⟩],none⟩
def oRe9_20:Oper:=⟨some 52,.build 100 #[(0,.tmp 42),(1,.tmp 51)],100,"ref.go:30",#[⟨10,.data⟩,⟨19,.data⟩],none⟩
def oRe9_21:Oper:=⟨some 9,.alloc 100,0,"ref.go:30",#[],none⟩
def oRe9_22:Oper:=⟨none,.store 100 (.tmp 9) (.tmp 52),0,"ref.go:30",#[⟨21,.data⟩,⟨20,.data⟩,⟨10,.chain⟩,⟨0,.phase⟩,⟨1,.phase⟩,⟨2,.phase⟩,⟨3,.phase⟩,⟨4,.phase⟩,⟨5,.phase⟩,⟨6,.phase⟩,⟨7,.phase⟩,⟨8,.phase⟩,⟨9,.phase⟩,⟨10,.phase⟩,⟨11,.phase⟩,⟨12,.phase⟩,⟨13,.phase⟩,⟨14,.phase⟩,⟨15,.phase⟩,⟨16,.phase⟩,⟨17,.phase⟩,⟨18,.phase⟩,⟨19,.phase⟩,⟨20,.phase⟩,⟨21,.phase⟩],none⟩
def opsRen9:List Oper:=[oRe9_0,oRe9_1,oRe9_2,oRe9_3,oRe9_4,oRe9_5,oRe9_6,oRe9_7,oRe9_8,oRe9_9,oRe9_10,oRe9_11,oRe9_12,oRe9_13,oRe9_14,oRe9_15,oRe9_16,oRe9_17,oRe9_18,oRe9_19,oRe9_20,oRe9_21,oRe9_22]
theorem regRen9 {w:World}{x0 x3 x4 x5 x7 x9 x10 x11 x12 x13 x14 x15 x16 x17 x18 x19 x20 x21 x22 x23 x24 x25 x26 x27 x28 x29 x30 x31 x32 x33 x34 x35 x36 x37 x38 x39 x40 x41 x42 x43 x44 x45 x46 x47 x48 x49 x50 x51 x52 x53 x54 x55 x56 x57 x58 x59 x60 x61 x62 x63 x64 x65 x66 x67 x68 x69 x70 x71 x72 x73 x74 x75 x76 x77 x78 x79 x80 x81 x82 x83 x84 x85 x86 x87 x88 x89 x90 x91:Value}{Q:Exit→Act→World→Prop}{b2 ab ao mb mo ls lm sc mc ul uc i j:Nat}{ua:Option Addr}{r0 r1 r2 r3 r4 r5 r6 r7 k0 k1 k2 k3 k4 k5 k6:Int}
  (p1:w.cell? ⟨b2,1,none⟩=some (.slice (some ⟨ab,ao,none⟩) ls sc)) (pc:w.cell? ⟨ab,ao+i,none⟩=some (.slice (some ⟨mb,mo,none⟩) lm mc)) (hi:(i:Int) < (ls:Int)) (hj:(j:Int) < (lm:Int))
  (q0:w.cell? ⟨mb,mo+j * 8,none⟩=some (.int .i64 r0)) (q1:w.cell? ⟨mb,mo+j * 8+1,none⟩=some (.int .i64 r1)) (q2:w.cell? ⟨mb,mo+j * 8+2,none⟩=some (.int .i64 r2)) (q3:w.cell? ⟨mb,mo+j * 8+3,none⟩=some (.int .i64 r3)) (q4:w.cell? ⟨mb,mo+j * 8+4,none⟩=some (.int .i64 r4)) (q5:w.cell? ⟨mb,mo+j * 8+5,none⟩=some (.int .i64 r5)) (q6:w.cell? ⟨mb,mo+j * 8+6,none⟩=some (.int .i64 r6)) (q7:w.cell? ⟨mb,mo+j * 8+7,none⟩=some (.int .i64 r7))
  (HC:∀W,Below w.heap.size w W→Calls Tryz.prog 102 #[.agg #[.int .i64 r0,.int .i64 r1,.int .i64 r2,.int .i64 r3,.int .i64 r4,.int .i64 r5,.int .i64 r6],.slice ua ul uc] W fun e w'=>e = .returned (.agg #[.int .i64 k0,.int .i64 k1,.int .i64 k2,.int .i64 k3,.int .i64 k4,.int .i64 k5,.int .i64 k6])∧Below W.heap.size W w')
  (hfin:∀(y21 _y22:Value) (W:World),(Below w.heap.size w W∧((fun i=>decide (i < 23)) 21=true→(fun i=>decide (i < 23)) 22=false→∃b,y21 = .pointer (some ⟨b,0,none⟩)∧w.heap.size≤b∧W.heap[b]? = some (.cells #[.int .i64 0,.int .i64 0,.int .i64 0,.int .i64 0,.int .i64 0,.int .i64 0,.int .i64 0,.int .i64 0] 100))∧((fun i=>decide (i < 23)) 22=true→∃b,y21 = .pointer (some ⟨b,0,none⟩)∧w.heap.size≤b∧W.heap[b]? = some (.cells #[.int .i64 k0,.int .i64 k1,.int .i64 k2,.int .i64 k3,.int .i64 k4,.int .i64 k5,.int .i64 k6,.int .i64 r7] 100)))→(∃b,y21 = .pointer (some ⟨b,0,none⟩)∧w.heap.size≤b)→(True)→Q .normal ⟨List.toArray (x0::.slice ua ul uc::.pointer (some ⟨b2,0,none⟩)::x3::x4::x5::.int .i64 (i:Int)::x7::.int .i64 (j:Int)::y21::x10::x11::x12::x13::x14::x15::x16::x17::x18::x19::x20::x21::x22::x23::x24::x25::x26::x27::x28::x29::x30::x31::.pointer (some ⟨b2,1,none⟩)::.slice (some ⟨ab,ao,none⟩) ls sc::.int .i64 (i:Int)::.pointer (some ⟨ab,ao+i,none⟩)::.slice (some ⟨mb,mo,none⟩) lm mc::.int .i64 (j:Int)::.pointer (some ⟨mb,mo+j * 8,none⟩)::.pointer (some ⟨mb,mo+j * 8,none⟩)::.agg #[.int .i64 r0,.int .i64 r1,.int .i64 r2,.int .i64 r3,.int .i64 r4,.int .i64 r5,.int .i64 r6]::.slice ua ul uc::.agg #[.int .i64 k0,.int .i64 k1,.int .i64 k2,.int .i64 k3,.int .i64 k4,.int .i64 k5,.int .i64 k6]::.pointer (some ⟨b2,1,none⟩)::.slice (some ⟨ab,ao,none⟩) ls sc::.int .i64 (i:Int)::.pointer (some ⟨ab,ao+i,none⟩)::.slice (some ⟨mb,mo,none⟩) lm mc::.int .i64 (j:Int)::.pointer (some ⟨mb,mo+j * 8,none⟩)::.pointer (some ⟨mb,mo+j * 8+7,none⟩)::.int .i64 r7::.agg #[.int .i64 k0,.int .i64 k1,.int .i64 k2,.int .i64 k3,.int .i64 k4,.int .i64 k5,.int .i64 k6,.int .i64 r7]::x53::x54::x55::x56::x57::x58::x59::x60::x61::x62::x63::x64::x65::x66::x67::x68::x69::x70::x71::x72::x73::x74::x75::x76::x77::x78::x79::x80::x81::x82::x83::x84::x85::x86::x87::x88::x89::x90::x91::[]),[]⟩ W) :
  (Code.region 9 opsRen9.toArray true).wp Tryz.prog Q ⟨List.toArray (x0::.slice ua ul uc::.pointer (some ⟨b2,0,none⟩)::x3::x4::x5::.int .i64 (i:Int)::x7::.int .i64 (j:Int)::x9::x10::x11::x12::x13::x14::x15::x16::x17::x18::x19::x20::x21::x22::x23::x24::x25::x26::x27::x28::x29::x30::x31::x32::x33::x34::x35::x36::x37::x38::x39::x40::x41::x42::x43::x44::x45::x46::x47::x48::x49::x50::x51::x52::x53::x54::x55::x56::x57::x58::x59::x60::x61::x62::x63::x64::x65::x66::x67::x68::x69::x70::x71::x72::x73::x74::x75::x76::x77::x78::x79::x80::x81::x82::x83::x84::x85::x86::x87::x88::x89::x90::x91::[]),[]⟩ w:=by
 obtain⟨SG,hSG⟩:=exS (StepG Tryz.prog opsRen9.toArray (fun ys=>⟨List.toArray (x0::.slice ua ul uc::.pointer (some ⟨b2,0,none⟩)::x3::x4::x5::.int .i64 (i:Int)::x7::.int .i64 (j:Int)::ys 21::x10::x11::x12::x13::x14::x15::x16::x17::x18::x19::x20::x21::x22::x23::x24::x25::x26::x27::x28::x29::x30::x31::ys 0::ys 1::ys 2::ys 3::ys 4::ys 5::ys 6::ys 7::ys 8::ys 9::ys 10::ys 11::ys 12::ys 13::ys 14::ys 15::ys 16::ys 17::ys 18::ys 19::ys 20::x53::x54::x55::x56::x57::x58::x59::x60::x61::x62::x63::x64::x65::x66::x67::x68::x69::x70::x71::x72::x73::x74::x75::x76::x77::x78::x79::x80::x81::x82::x83::x84::x85::x86::x87::x88::x89::x90::x91::[]),[]⟩) [eqV (.pointer (some ⟨b2,1,none⟩)),eqV (.slice (some ⟨ab,ao,none⟩) ls sc),eqV (.int .i64 (i:Int)),eqV (.pointer (some ⟨ab,ao+i,none⟩)),eqV (.slice (some ⟨mb,mo,none⟩) lm mc),eqV (.int .i64 (j:Int)),eqV (.pointer (some ⟨mb,mo+j * 8,none⟩)),eqV (.pointer (some ⟨mb,mo+j * 8,none⟩)),eqV (.agg #[.int .i64 r0,.int .i64 r1,.int .i64 r2,.int .i64 r3,.int .i64 r4,.int .i64 r5,.int .i64 r6]),eqV (.slice ua ul uc),eqV (.agg #[.int .i64 k0,.int .i64 k1,.int .i64 k2,.int .i64 k3,.int .i64 k4,.int .i64 k5,.int .i64 k6]),eqV (.pointer (some ⟨b2,1,none⟩)),eqV (.slice (some ⟨ab,ao,none⟩) ls sc),eqV (.int .i64 (i:Int)),eqV (.pointer (some ⟨ab,ao+i,none⟩)),eqV (.slice (some ⟨mb,mo,none⟩) lm mc),eqV (.int .i64 (j:Int)),eqV (.pointer (some ⟨mb,mo+j * 8,none⟩)),eqV (.pointer (some ⟨mb,mo+j * 8+7,none⟩)),eqV (.int .i64 r7),eqV (.agg #[.int .i64 k0,.int .i64 k1,.int .i64 k2,.int .i64 k3,.int .i64 k4,.int .i64 k5,.int .i64 k6,.int .i64 r7]),fun _ v=>∃b,v = .pointer (some ⟨b,0,none⟩)∧w.heap.size≤b,anyV] (fun _ _=>True) (fun D ys W=>Below w.heap.size w W∧(D 21=true→D 22=false→∃b,(ys 21) = .pointer (some ⟨b,0,none⟩)∧w.heap.size≤b∧W.heap[b]? = some (.cells #[.int .i64 0,.int .i64 0,.int .i64 0,.int .i64 0,.int .i64 0,.int .i64 0,.int .i64 0,.int .i64 0] 100))∧(D 22=true→∃b,(ys 21) = .pointer (some ⟨b,0,none⟩)∧w.heap.size≤b∧W.heap[b]? = some (.cells #[.int .i64 k0,.int .i64 k1,.int .i64 k2,.int .i64 k3,.int .i64 k4,.int .i64 k5,.int .i64 k6,.int .i64 r7] 100))) Q)
 have st0:SG 0 oRe9_0:=by
  subst hSG;refine StepG.mk rfl (openY 21 fun y21=>fun ys D W K _ _ _ hG hK=>?_);simp only[updG,Nat.reduceEqDiff,reduceIte] at hG⊢;unfold oRe9_0;obtain⟨g1,g2,g3⟩:=hG;go_simp;exact hK _ _ trivial ⟨g1,g2,g3⟩ rfl
 have st1:SG 1 oRe9_1:=by
  subst hSG;refine StepG.mk rfl (openY 0 fun y0=>openY 21 fun y21=>fun ys D W K _ _ hd hG hK=>?_);have e0:y0=_:=(hd.get 0 rfl).2;subst e0;simp only[updG,Nat.reduceEqDiff,reduceIte] at hG⊢;unfold oRe9_1;obtain⟨g1,g2,g3⟩:=hG;have c:=cell_kept g1 p1;go_simp;exact hK _ _ trivial ⟨g1,g2,g3⟩ rfl
 have st2:SG 2 oRe9_2:=by
  subst hSG;refine StepG.mk rfl (openY 21 fun y21=>fun ys D W K _ _ _ hG hK=>?_);simp only[updG,Nat.reduceEqDiff,reduceIte] at hG⊢;unfold oRe9_2;obtain⟨g1,g2,g3⟩:=hG;go_simp;exact hK _ _ trivial ⟨g1,g2,g3⟩ rfl
 have st3:SG 3 oRe9_3:=by
  subst hSG;refine StepG.mk rfl (openY 1 fun y1=>openY 2 fun y2=>openY 21 fun y21=>fun ys D W K _ _ hd hG hK=>?_);have e1:y1=_:=(hd.get 1 rfl).2;have e2:y2=_:=(hd.get 2 rfl).2;subst e1 e2;simp only[updG,Nat.reduceEqDiff,reduceIte] at hG⊢;unfold oRe9_3;obtain⟨g1,g2,g3⟩:=hG;go_simp;exact hK _ _ trivial ⟨g1,g2,g3⟩ rfl
 have st4:SG 4 oRe9_4:=by
  subst hSG;refine StepG.mk rfl (openY 3 fun y3=>openY 21 fun y21=>fun ys D W K _ _ hd hG hK=>?_);have e3:y3=_:=(hd.get 3 rfl).2;subst e3;simp only[updG,Nat.reduceEqDiff,reduceIte] at hG⊢;unfold oRe9_4;obtain⟨g1,g2,g3⟩:=hG;have c:=cell_kept g1 pc;go_simp;exact hK _ _ trivial ⟨g1,g2,g3⟩ rfl
 have st5:SG 5 oRe9_5:=by
  subst hSG;refine StepG.mk rfl (openY 21 fun y21=>fun ys D W K _ _ _ hG hK=>?_);simp only[updG,Nat.reduceEqDiff,reduceIte] at hG⊢;unfold oRe9_5;obtain⟨g1,g2,g3⟩:=hG;go_simp;exact hK _ _ trivial ⟨g1,g2,g3⟩ rfl
 have st6:SG 6 oRe9_6:=by
  subst hSG;refine StepG.mk rfl (openY 4 fun y4=>openY 5 fun y5=>openY 21 fun y21=>fun ys D W K _ _ hd hG hK=>?_);have e4:y4=_:=(hd.get 4 rfl).2;have e5:y5=_:=(hd.get 5 rfl).2;subst e4 e5;simp only[updG,Nat.reduceEqDiff,reduceIte] at hG⊢;unfold oRe9_6;obtain⟨g1,g2,g3⟩:=hG;go_simp;exact hK _ _ trivial ⟨g1,g2,g3⟩ rfl
 have st7:SG 7 oRe9_7:=by
  subst hSG;refine StepG.mk rfl (openY 6 fun y6=>openY 21 fun y21=>fun ys D W K _ _ hd hG hK=>?_);have e6:y6=_:=(hd.get 6 rfl).2;subst e6;simp only[updG,Nat.reduceEqDiff,reduceIte] at hG⊢;unfold oRe9_7;obtain⟨g1,g2,g3⟩:=hG;go_simp;exact hK _ _ trivial ⟨g1,g2,g3⟩ rfl
 have st8:SG 8 oRe9_8:=by
  subst hSG;refine StepG.mk rfl (openY 7 fun y7=>openY 21 fun y21=>fun ys D W K _ _ hd hG hK=>?_);have e7:y7=_:=(hd.get 7 rfl).2;subst e7;simp only[updG,Nat.reduceEqDiff,reduceIte] at hG⊢;unfold oRe9_8;obtain⟨g1,g2,g3⟩:=hG;have c0:=cell_kept g1 q0;have c1:=cell_kept g1 q1;have c2:=cell_kept g1 q2;have c3:=cell_kept g1 q3;have c4:=cell_kept g1 q4;have c5:=cell_kept g1 q5;have c6:=cell_kept g1 q6;go_simp;exact hK _ _ trivial ⟨g1,g2,g3⟩ rfl
 have st9:SG 9 oRe9_9:=by
  subst hSG;refine StepG.mk rfl (openY 21 fun y21=>fun ys D W K _ _ _ hG hK=>?_);simp only[updG,Nat.reduceEqDiff,reduceIte] at hG⊢;unfold oRe9_9;obtain⟨g1,g2,g3⟩:=hG;go_simp;exact hK _ _ trivial ⟨g1,g2,g3⟩ rfl
 have st10:SG 10 oRe9_10:=by
  subst hSG;refine StepG.mk rfl (openY 8 fun y8=>openY 9 fun y9=>openY 21 fun y21=>fun ys D W K _ _ hd hG hK=>?_);have e8:y8=_:=(hd.get 8 rfl).2;have e9:y9=_:=(hd.get 9 rfl).2;subst e8 e9;simp only[updG,Nat.reduceEqDiff,reduceIte] at hG⊢;unfold oRe9_10;obtain⟨g1,g2,g3⟩:=hG;have HM:=HC W g1;go_simp;refine HM.mono ?_;rintro e W9 ⟨rfl,hb9⟩;exact hK _ _ trivial ⟨btt g1 hb9,fun h1 h2=>by obtain⟨b,z1,z2,z3⟩:=g2 h1 h2;exact⟨b,z1,z2,(hb9.block b (Array.getElem?_eq_some_iff.1 z3).1).trans z3⟩,fun h=>by obtain⟨b,z1,z2,z3⟩:=g3 h;exact⟨b,z1,z2,(hb9.block b (Array.getElem?_eq_some_iff.1 z3).1).trans z3⟩⟩ rfl
 have st11:SG 11 oRe9_11:=by
  subst hSG;refine StepG.mk rfl (openY 21 fun y21=>fun ys D W K _ _ _ hG hK=>?_);simp only[updG,Nat.reduceEqDiff,reduceIte] at hG⊢;unfold oRe9_11;obtain⟨g1,g2,g3⟩:=hG;go_simp;exact hK _ _ trivial ⟨g1,g2,g3⟩ rfl
 have st12:SG 12 oRe9_12:=by
  subst hSG;refine StepG.mk rfl (openY 11 fun y11=>openY 21 fun y21=>fun ys D W K _ _ hd hG hK=>?_);have e11:y11=_:=(hd.get 11 rfl).2;subst e11;simp only[updG,Nat.reduceEqDiff,reduceIte] at hG⊢;unfold oRe9_12;obtain⟨g1,g2,g3⟩:=hG;have c:=cell_kept g1 p1;go_simp;exact hK _ _ trivial ⟨g1,g2,g3⟩ rfl
 have st13:SG 13 oRe9_13:=by
  subst hSG;refine StepG.mk rfl (openY 21 fun y21=>fun ys D W K _ _ _ hG hK=>?_);simp only[updG,Nat.reduceEqDiff,reduceIte] at hG⊢;unfold oRe9_13;obtain⟨g1,g2,g3⟩:=hG;go_simp;exact hK _ _ trivial ⟨g1,g2,g3⟩ rfl
 have st14:SG 14 oRe9_14:=by
  subst hSG;refine StepG.mk rfl (openY 12 fun y12=>openY 13 fun y13=>openY 21 fun y21=>fun ys D W K _ _ hd hG hK=>?_);have e12:y12=_:=(hd.get 12 rfl).2;have e13:y13=_:=(hd.get 13 rfl).2;subst e12 e13;simp only[updG,Nat.reduceEqDiff,reduceIte] at hG⊢;unfold oRe9_14;obtain⟨g1,g2,g3⟩:=hG;go_simp;exact hK _ _ trivial ⟨g1,g2,g3⟩ rfl
 have st15:SG 15 oRe9_15:=by
  subst hSG;refine StepG.mk rfl (openY 14 fun y14=>openY 21 fun y21=>fun ys D W K _ _ hd hG hK=>?_);have e14:y14=_:=(hd.get 14 rfl).2;subst e14;simp only[updG,Nat.reduceEqDiff,reduceIte] at hG⊢;unfold oRe9_15;obtain⟨g1,g2,g3⟩:=hG;have c:=cell_kept g1 pc;go_simp;exact hK _ _ trivial ⟨g1,g2,g3⟩ rfl
 have st16:SG 16 oRe9_16:=by
  subst hSG;refine StepG.mk rfl (openY 21 fun y21=>fun ys D W K _ _ _ hG hK=>?_);simp only[updG,Nat.reduceEqDiff,reduceIte] at hG⊢;unfold oRe9_16;obtain⟨g1,g2,g3⟩:=hG;go_simp;exact hK _ _ trivial ⟨g1,g2,g3⟩ rfl
 have st17:SG 17 oRe9_17:=by
  subst hSG;refine StepG.mk rfl (openY 15 fun y15=>openY 16 fun y16=>openY 21 fun y21=>fun ys D W K _ _ hd hG hK=>?_);have e15:y15=_:=(hd.get 15 rfl).2;have e16:y16=_:=(hd.get 16 rfl).2;subst e15 e16;simp only[updG,Nat.reduceEqDiff,reduceIte] at hG⊢;unfold oRe9_17;obtain⟨g1,g2,g3⟩:=hG;go_simp;exact hK _ _ trivial ⟨g1,g2,g3⟩ rfl
 have st18:SG 18 oRe9_18:=by
  subst hSG;refine StepG.mk rfl (openY 17 fun y17=>openY 21 fun y21=>fun ys D W K _ _ hd hG hK=>?_);have e17:y17=_:=(hd.get 17 rfl).2;subst e17;simp only[updG,Nat.reduceEqDiff,reduceIte] at hG⊢;unfold oRe9_18;obtain⟨g1,g2,g3⟩:=hG;go_simp;exact hK _ _ trivial ⟨g1,g2,g3⟩ rfl
 have st19:SG 19 oRe9_19:=by
  subst hSG;refine StepG.mk rfl (openY 18 fun y18=>openY 21 fun y21=>fun ys D W K _ _ hd hG hK=>?_);have e18:y18=_:=(hd.get 18 rfl).2;subst e18;simp only[updG,Nat.reduceEqDiff,reduceIte] at hG⊢;unfold oRe9_19;obtain⟨g1,g2,g3⟩:=hG;have c:=cell_kept g1 q7;go_simp;exact hK _ _ trivial ⟨g1,g2,g3⟩ rfl
 have st20:SG 20 oRe9_20:=by
  subst hSG;refine StepG.mk rfl (openY 10 fun y10=>openY 19 fun y19=>openY 21 fun y21=>fun ys D W K _ _ hd hG hK=>?_);have e10:y10=_:=(hd.get 10 rfl).2;have e19:y19=_:=(hd.get 19 rfl).2;subst e10 e19;simp only[updG,Nat.reduceEqDiff,reduceIte] at hG⊢;unfold oRe9_20;obtain⟨g1,g2,g3⟩:=hG;go_simp;exact hK _ _ trivial ⟨g1,g2,g3⟩ rfl
 have st21:SG 21 oRe9_21:=by
  subst hSG;refine StepG.mk rfl (openY 21 fun y21=>fun ys D W K hD hcl _ hG hK=>?_);simp only[updG,Nat.reduceEqDiff,reduceIte] at hG⊢;unfold oRe9_21;obtain⟨g1,g2,g3⟩:=hG;have hba:=g1.alloc g1.size (.cells #[.int .i64 0,.int .i64 0,.int .i64 0,.int .i64 0,.int .i64 0,.int .i64 0,.int .i64 0,.int .i64 0] 100);go_simp;exact hK _ _ trivial ⟨hba,fun _ _=>⟨_,rfl,g1.size,heap_alloc_new _ _⟩,fun h=>by have:=hcl 22 _ h rfl 21 (by decide);rw[hD] at this;cases this⟩ ⟨_,rfl,g1.size⟩
 have st22:SG 22 oRe9_22:=by
  subst hSG;refine StepG.mk rfl (openY 21 fun y21=>openY 20 fun y20=>fun ys D W K hD _ hd hG hK=>?_);obtain⟨d21,e21⟩:D 21=true∧(∃b,y21 = .pointer (some ⟨b,0,none⟩)∧w.heap.size≤b):=hd.get 21 rfl;have e20:y20=_:=(hd.get 20 rfl).2;subst e20;simp only[updG,Nat.reduceEqDiff,reduceIte] at hG⊢;unfold oRe9_22;obtain⟨g1,g2,g3⟩:=hG;obtain⟨b,rfl,hbs,hbk⟩:=g2 d21 hD;obtain⟨n0,n1,n2,n3,n4,n5,n6,n7⟩:=boxL8 hbk;obtain⟨f0,f1,f2,f3,f4,f5,f6,f7⟩:=freeL8 hbk;go_simp;refine storeEnd8 (u0:=.int .i64 k0) (u1:=.int .i64 k1) (u2:=.int .i64 k2) (u3:=.int .i64 k3) (u4:=.int .i64 k4) (u5:=.int .i64 k5) (u6:=.int .i64 k6) (u7:=.int .i64 r7) hbk ?_;intro W9 hW9 hb9 _ hk9 _ _ _ _ _ _ _ _;rw[←hW9];exact hK undef W9 trivial ⟨hb9 _ _ hbs g1,fun _ h=>absurd (show(true:Bool)=false from h) (by decide),fun _=>⟨b,rfl,hbs,hk9⟩⟩ trivial
 subst hSG;refine wp_region_sg (l:=opsRen9) ⟨st0,st1,st2,st3,st4,st5,st6,st7,st8,st9,st10,st11,st12,st13,st14,st15,st16,st17,st18,st19,st20,st21,st22,trivial⟩ (fun i=>([x32,x33,x34,x35,x36,x37,x38,x39,x40,x41,x42,x43,x44,x45,x46,x47,x48,x49,x50,x51,x52,x9,undef]:List Value).getD i undef) (by kernel_rfl) (by kernel_rfl) ⟨sE,sE,sE,sE,sE,sE,sE,sE,sE,sE,sE,sE,sE,sE,sE,sE,sE,sE,sE,sE,sE,fun _ _ _ h _=>h,fun _ _ _ h _=>h,trivial⟩ ?g0 ?gx ?fin
 case g0=>exact⟨below_drewN (Below.refl w.heap.size w) 1,(fun h=>by cases h),(fun h=>by cases h)⟩
 case gx=>exact fun D D' ys W h ⟨h1,h2,h3⟩=>⟨h1,fun q q'=>h2 ((h 21 (by decide)).trans q) ((h 22 (by decide)).trans q'),fun q=>h3 ((h 22 (by decide)).trans q)⟩
 case fin=>
  intro ys W hG hp;try dsimp only
  rw[(hp 0 (by decide):ys 0=_),(hp 1 (by decide):ys 1=_),(hp 2 (by decide):ys 2=_),(hp 3 (by decide):ys 3=_),(hp 4 (by decide):ys 4=_),(hp 5 (by decide):ys 5=_),(hp 6 (by decide):ys 6=_),(hp 7 (by decide):ys 7=_),(hp 8 (by decide):ys 8=_),(hp 9 (by decide):ys 9=_),(hp 10 (by decide):ys 10=_),(hp 11 (by decide):ys 11=_),(hp 12 (by decide):ys 12=_),(hp 13 (by decide):ys 13=_),(hp 14 (by decide):ys 14=_),(hp 15 (by decide):ys 15=_),(hp 16 (by decide):ys 16=_),(hp 17 (by decide):ys 17=_),(hp 18 (by decide):ys 18=_),(hp 19 (by decide):ys 19=_),(hp 20 (by decide):ys 20=_)];exact hfin (ys 21) (ys 22) W hG (hp 21 (by decide)) (hp 22 (by decide))
end Go.Proofs.YtmikofeildnpdaaGreat
