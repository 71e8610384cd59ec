/- Texts of this claim, put together: YD0. -/
import Derived.Test.YtmikofeildnpdaaGreatKYu
import Derived.Test.YtmikofeildnpdaaGreatKYv

set_option maxRecDepth 100000
set_option maxHeartbeats 12800000
/- roundtableref21.Renamed: its region 9. -/
namespace Go.Proofs.YtmikofeildnpdaaGreat
open Go.RowKit
def oRen9_0:Oper:=⟨some 32,Op.fieldAddr 24 (Operand.tmp 2) 1,0,"ref.go:30",#[],none⟩
def oRen9_1:Oper:=⟨some 33,Op.load 22 (Operand.tmp 32),22,"ref.go:30",#[⟨0,.data⟩],none⟩
def oRen9_2:Oper:=⟨some 34,Op.move (Operand.tmp 6),3,"ref.go:30",#[],none⟩
def oRen9_3:Oper:=⟨some 35,Op.indexAddr 22 (Operand.tmp 33) (Operand.tmp 34),0,"ref.go:30",#[⟨1,.data⟩,⟨2,.data⟩],none⟩
def oRen9_4:Oper:=⟨some 36,Op.load 98 (Operand.tmp 35),98,"ref.go:30",#[⟨3,.data⟩],none⟩
def oRen9_5:Oper:=⟨some 37,Op.move (Operand.tmp 8),3,"ref.go:30",#[],none⟩
def oRen9_6:Oper:=⟨some 38,Op.indexAddr 98 (Operand.tmp 36) (Operand.tmp 37),0,"ref.go:30",#[⟨4,.data⟩,⟨5,.data⟩],none⟩
def oRen9_7:Oper:=⟨some 39,Op.fieldAddr 100 (Operand.tmp 38) 0,0,"ref.go:30",#[⟨6,.data⟩],none⟩
def oRen9_8:Oper:=⟨some 40,Op.load 87 (Operand.tmp 39),87,"ref.go:30",#[⟨7,.data⟩],none⟩
def oRen9_9:Oper:=⟨some 41,Op.move (Operand.tmp 1),25,"ref.go:30",#[],none⟩
def oRen9_10:Oper:=⟨some 42,Op.call { callee:=Callee.value (Operand.func 102),args:=#[Operand.tmp 40,Operand.tmp 41],argTypes:=#[87,25] },87,"ref.go:30",#[⟨8,.data⟩,⟨9,.data⟩],none⟩
def oRen9_11:Oper:=⟨some 43,Op.fieldAddr 24 (Operand.tmp 2) 1,0,"ref.go:30",#[],none⟩
def oRen9_12:Oper:=⟨some 44,Op.load 22 (Operand.tmp 43),22,"ref.go:30",#[⟨11,.data⟩],none⟩
def oRen9_13:Oper:=⟨some 45,Op.move (Operand.tmp 6),3,"ref.go:30",#[],none⟩
def oRen9_14:Oper:=⟨some 46,Op.indexAddr 22 (Operand.tmp 44) (Operand.tmp 45),0,"ref.go:30",#[⟨12,.data⟩,⟨13,.data⟩],none⟩
def oRen9_15:Oper:=⟨some 47,Op.load 98 (Operand.tmp 46),98,"ref.go:30",#[⟨14,.data⟩],none⟩
def oRen9_16:Oper:=⟨some 48,Op.move (Operand.tmp 8),3,"ref.go:30",#[],none⟩
def oRen9_17:Oper:=⟨some 49,Op.indexAddr 98 (Operand.tmp 47) (Operand.tmp 48),0,"ref.go:30",#[⟨15,.data⟩,⟨16,.data⟩],none⟩
def oRen9_18:Oper:=⟨some 50,Op.fieldAddr 100 (Operand.tmp 49) 1,0,"ref.go:30",#[⟨17,.data⟩],none⟩
def oRen9_19:Oper:=⟨some 51,Op.load 3 (Operand.tmp 50),3,"ref.go:30",#[⟨18,.data⟩],none⟩
def oRen9_20:Oper:=⟨some 52,Op.build 100 #[(0,Operand.tmp 42),(1,Operand.tmp 51)],100,"ref.go:30",#[⟨10,.data⟩,⟨19,.data⟩],none⟩
def oRen9_21:Oper:=⟨some 9,Op.alloc 100,0,"ref.go:30",#[],none⟩
def oRen9_22:Oper:=⟨none,Op.store 100 (Operand.tmp 9) (Operand.tmp 52),0,"ref.go:30",#[⟨21,.data⟩,⟨20,.data⟩,⟨10,.chain⟩,⟨0,.phase⟩,⟨1,.phase⟩,⟨2,.phase⟩,⟨3,.phase⟩,⟨4,.phase⟩,⟨5,.phase⟩,⟨6,.phase⟩,⟨7,.phase⟩,⟨8,.phase⟩,⟨9,.phase⟩,⟨10,.phase⟩,⟨11,.phase⟩,⟨12,.phase⟩,⟨13,.phase⟩,⟨14,.phase⟩,⟨15,.phase⟩,⟨16,.phase⟩,⟨17,.phase⟩,⟨18,.phase⟩,⟨19,.phase⟩,⟨20,.phase⟩,⟨21,.phase⟩],none⟩
def opsRen9:List Oper:=[oRen9_0,oRen9_1,oRen9_2,oRen9_3,oRen9_4,oRen9_5,oRen9_6,oRen9_7,oRen9_8,oRen9_9,oRen9_10,oRen9_11,oRen9_12,oRen9_13,oRen9_14,oRen9_15,oRen9_16,oRen9_17,oRen9_18,oRen9_19,oRen9_20,oRen9_21,oRen9_22]
theorem regRen9 {w:World} {x0 x3 x4 x5 x7 x9 x10 x11 x12 x13 x14 x15 x16 x17 x18 x19 x20 x21 x22 x23 x24 x25 x26 x27 x28 x29 x30 x31 x32 x33 x34 x35 x36 x37 x38 x39 x40 x41 x42 x43 x44 x45 x46 x47 x48 x49 x50 x51 x52 x53 x54 x55 x56 x57 x58 x59 x60 x61 x62 x63 x64 x65 x66 x67 x68 x69 x70 x71 x72 x73 x74 x75 x76 x77 x78 x79 x80 x81 x82 x83 x84 x85 x86 x87 x88 x89 x90 x91:Value} {Q:Exit→Act→World→Prop} {b2 ab ao mb mo ls lm sc mc ul uc i j:Nat} {ua:Option Addr} {r0 r1 r2 r3 r4 r5 r6 r7 k0 k1 k2 k3 k4 k5 k6:Int}
  (p1:w.cell? ⟨b2,1,none⟩=some (.slice (some ⟨ab,ao,none⟩) ls sc)) (pc:w.cell? ⟨ab,ao+i,none⟩=some (.slice (some ⟨mb,mo,none⟩) lm mc)) (hi:(i:Int) < (ls:Int)) (hj:(j:Int) < (lm:Int))
  (q0:w.cell? ⟨mb,mo+j * 8,none⟩=some (.int .i64 r0)) (q1:w.cell? ⟨mb,mo+j * 8+1,none⟩=some (.int .i64 r1)) (q2:w.cell? ⟨mb,mo+j * 8+2,none⟩=some (.int .i64 r2)) (q3:w.cell? ⟨mb,mo+j * 8+3,none⟩=some (.int .i64 r3)) (q4:w.cell? ⟨mb,mo+j * 8+4,none⟩=some (.int .i64 r4)) (q5:w.cell? ⟨mb,mo+j * 8+5,none⟩=some (.int .i64 r5)) (q6:w.cell? ⟨mb,mo+j * 8+6,none⟩=some (.int .i64 r6)) (q7:w.cell? ⟨mb,mo+j * 8+7,none⟩=some (.int .i64 r7))
  (HC:∀ W,Below w.heap.size w W→Calls Tryz.prog 102 #[.agg #[.int .i64 r0,.int .i64 r1,.int .i64 r2,.int .i64 r3,.int .i64 r4,.int .i64 r5,.int .i64 r6],.slice ua ul uc] W fun e w'=>e = .returned (.agg #[.int .i64 k0,.int .i64 k1,.int .i64 k2,.int .i64 k3,.int .i64 k4,.int .i64 k5,.int .i64 k6])∧Below W.heap.size W w')
  (hfin:∀ (y21 _y22:Value) (W:World),(Below w.heap.size w W∧((fun i=>decide (i < 23)) 21=true→(fun i=>decide (i < 23)) 22=false→∃ b,y21 = .pointer (some ⟨b,0,none⟩)∧w.heap.size≤b∧W.heap[b]? = some (.cells #[.int .i64 0,.int .i64 0,.int .i64 0,.int .i64 0,.int .i64 0,.int .i64 0,.int .i64 0,.int .i64 0] 100))∧((fun i=>decide (i < 23)) 22=true→∃ b,y21 = .pointer (some ⟨b,0,none⟩)∧w.heap.size≤b∧W.heap[b]? = some (.cells #[.int .i64 k0,.int .i64 k1,.int .i64 k2,.int .i64 k3,.int .i64 k4,.int .i64 k5,.int .i64 k6,.int .i64 r7] 100)))→(∃ b,y21 = .pointer (some ⟨b,0,none⟩)∧w.heap.size≤b)→(True)→Q .normal ⟨List.toArray (x0::.slice ua ul uc::.pointer (some ⟨b2,0,none⟩)::x3::x4::x5::.int .i64 (i:Int)::x7::.int .i64 (j:Int)::y21::x10::x11::x12::x13::x14::x15::x16::x17::x18::x19::x20::x21::x22::x23::x24::x25::x26::x27::x28::x29::x30::x31::.pointer (some ⟨b2,1,none⟩)::.slice (some ⟨ab,ao,none⟩) ls sc::.int .i64 (i:Int)::.pointer (some ⟨ab,ao+i,none⟩)::.slice (some ⟨mb,mo,none⟩) lm mc::.int .i64 (j:Int)::.pointer (some ⟨mb,mo+j * 8,none⟩)::.pointer (some ⟨mb,mo+j * 8,none⟩)::.agg #[.int .i64 r0,.int .i64 r1,.int .i64 r2,.int .i64 r3,.int .i64 r4,.int .i64 r5,.int .i64 r6]::.slice ua ul uc::.agg #[.int .i64 k0,.int .i64 k1,.int .i64 k2,.int .i64 k3,.int .i64 k4,.int .i64 k5,.int .i64 k6]::.pointer (some ⟨b2,1,none⟩)::.slice (some ⟨ab,ao,none⟩) ls sc::.int .i64 (i:Int)::.pointer (some ⟨ab,ao+i,none⟩)::.slice (some ⟨mb,mo,none⟩) lm mc::.int .i64 (j:Int)::.pointer (some ⟨mb,mo+j * 8,none⟩)::.pointer (some ⟨mb,mo+j * 8+7,none⟩)::.int .i64 r7::.agg #[.int .i64 k0,.int .i64 k1,.int .i64 k2,.int .i64 k3,.int .i64 k4,.int .i64 k5,.int .i64 k6,.int .i64 r7]::x53::x54::x55::x56::x57::x58::x59::x60::x61::x62::x63::x64::x65::x66::x67::x68::x69::x70::x71::x72::x73::x74::x75::x76::x77::x78::x79::x80::x81::x82::x83::x84::x85::x86::x87::x88::x89::x90::x91::[]),[]⟩ W) :
  (Code.region 9 opsRen9.toArray true).wp Tryz.prog Q ⟨List.toArray (x0::.slice ua ul uc::.pointer (some ⟨b2,0,none⟩)::x3::x4::x5::.int .i64 (i:Int)::x7::.int .i64 (j:Int)::x9::x10::x11::x12::x13::x14::x15::x16::x17::x18::x19::x20::x21::x22::x23::x24::x25::x26::x27::x28::x29::x30::x31::x32::x33::x34::x35::x36::x37::x38::x39::x40::x41::x42::x43::x44::x45::x46::x47::x48::x49::x50::x51::x52::x53::x54::x55::x56::x57::x58::x59::x60::x61::x62::x63::x64::x65::x66::x67::x68::x69::x70::x71::x72::x73::x74::x75::x76::x77::x78::x79::x80::x81::x82::x83::x84::x85::x86::x87::x88::x89::x90::x91::[]),[]⟩ w:=by
 obtain ⟨fr,hfr⟩:∃ fr:Value→Value→Value→Value→Value→Value→Value→Value→Value→Value→Value→Value→Value→Value→Value→Value→Value→Value→Value→Value→Value→Value→Act,fr=fun y0 y1 y2 y3 y4 y5 y6 y7 y8 y9 y10 y11 y12 y13 y14 y15 y16 y17 y18 y19 y20 y21=>⟨List.toArray (x0::.slice ua ul uc::.pointer (some ⟨b2,0,none⟩)::x3::x4::x5::.int .i64 (i:Int)::x7::.int .i64 (j:Int)::y21::x10::x11::x12::x13::x14::x15::x16::x17::x18::x19::x20::x21::x22::x23::x24::x25::x26::x27::x28::x29::x30::x31::y0::y1::y2::y3::y4::y5::y6::y7::y8::y9::y10::y11::y12::y13::y14::y15::y16::y17::y18::y19::y20::x53::x54::x55::x56::x57::x58::x59::x60::x61::x62::x63::x64::x65::x66::x67::x68::x69::x70::x71::x72::x73::x74::x75::x76::x77::x78::x79::x80::x81::x82::x83::x84::x85::x86::x87::x88::x89::x90::x91::[]),[]⟩:=⟨_,rfl⟩
 obtain ⟨GG,hGG⟩:∃ GG:(Nat→Bool)→Value→World→Prop,GG=fun D y21 W=>Below w.heap.size w W∧(D 21=true→D 22=false→∃ b,y21 = .pointer (some ⟨b,0,none⟩)∧w.heap.size≤b∧W.heap[b]? = some (.cells #[.int .i64 0,.int .i64 0,.int .i64 0,.int .i64 0,.int .i64 0,.int .i64 0,.int .i64 0,.int .i64 0] 100))∧(D 22=true→∃ b,y21 = .pointer (some ⟨b,0,none⟩)∧w.heap.size≤b∧W.heap[b]? = some (.cells #[.int .i64 k0,.int .i64 k1,.int .i64 k2,.int .i64 k3,.int .i64 k4,.int .i64 k5,.int .i64 k6,.int .i64 r7] 100)):=⟨_,rfl⟩
 have st0 {D:Nat→Bool} {y0 y1 y2 y3 y4 y5 y6 y7 y8 y9 y10 y11 y12 y13 y14 y15 y16 y17 y18 y19 y20 y21:Value} {W:World} {K:Act→World→Prop} (hD:D 0=false) (hcl:ClG opsRen9.toArray D) (hd:True) (hG:GG D y21 W) (hK:∀ (v:Value) (W':World),(True)→GG (addG D 0) y21 W'→(v = .pointer (some ⟨b2,1,none⟩))→K (fr v y1 y2 y3 y4 y5 y6 y7 y8 y9 y10 y11 y12 y13 y14 y15 y16 y17 y18 y19 y20 y21) W'):Oper.wp Tryz.prog oRen9_0 (fr y0 y1 y2 y3 y4 y5 y6 y7 y8 y9 y10 y11 y12 y13 y14 y15 y16 y17 y18 y19 y20 y21) W K Q:=by
  subst hfr hGG
  unfold oRen9_0
  obtain ⟨g1,g2,g3⟩:=hG
  go_simp
  exact hK _ _ trivial ⟨g1,g2,g3⟩ rfl
 have st1 {D:Nat→Bool} {y0 y1 y2 y3 y4 y5 y6 y7 y8 y9 y10 y11 y12 y13 y14 y15 y16 y17 y18 y19 y20 y21:Value} {W:World} {K:Act→World→Prop} (hD:D 1=false) (hcl:ClG opsRen9.toArray D) (hd:(D 0=true∧y0 = .pointer (some ⟨b2,1,none⟩))∧True) (hG:GG D y21 W) (hK:∀ (v:Value) (W':World),(True)→GG (addG D 1) y21 W'→(v = .slice (some ⟨ab,ao,none⟩) ls sc)→K (fr y0 v y2 y3 y4 y5 y6 y7 y8 y9 y10 y11 y12 y13 y14 y15 y16 y17 y18 y19 y20 y21) W'):Oper.wp Tryz.prog oRen9_1 (fr y0 y1 y2 y3 y4 y5 y6 y7 y8 y9 y10 y11 y12 y13 y14 y15 y16 y17 y18 y19 y20 y21) W K Q:=by
  subst hfr hGG
  unfold oRen9_1
  obtain ⟨⟨_,rfl⟩,-⟩:=hd
  obtain ⟨g1,g2,g3⟩:=hG
  have c:=cell_kept g1 p1
  go_simp
  exact hK _ _ trivial ⟨g1,g2,g3⟩ rfl
 have st2 {D:Nat→Bool} {y0 y1 y2 y3 y4 y5 y6 y7 y8 y9 y10 y11 y12 y13 y14 y15 y16 y17 y18 y19 y20 y21:Value} {W:World} {K:Act→World→Prop} (hD:D 2=false) (hcl:ClG opsRen9.toArray D) (hd:True) (hG:GG D y21 W) (hK:∀ (v:Value) (W':World),(True)→GG (addG D 2) y21 W'→(v = .int .i64 (i:Int))→K (fr y0 y1 v y3 y4 y5 y6 y7 y8 y9 y10 y11 y12 y13 y14 y15 y16 y17 y18 y19 y20 y21) W'):Oper.wp Tryz.prog oRen9_2 (fr y0 y1 y2 y3 y4 y5 y6 y7 y8 y9 y10 y11 y12 y13 y14 y15 y16 y17 y18 y19 y20 y21) W K Q:=by
  subst hfr hGG
  unfold oRen9_2
  obtain ⟨g1,g2,g3⟩:=hG
  go_simp
  exact hK _ _ trivial ⟨g1,g2,g3⟩ rfl
 have st3 {D:Nat→Bool} {y0 y1 y2 y3 y4 y5 y6 y7 y8 y9 y10 y11 y12 y13 y14 y15 y16 y17 y18 y19 y20 y21:Value} {W:World} {K:Act→World→Prop} (hD:D 3=false) (hcl:ClG opsRen9.toArray D) (hd:(D 1=true∧y1 = .slice (some ⟨ab,ao,none⟩) ls sc)∧(D 2=true∧y2 = .int .i64 (i:Int))∧True) (hG:GG D y21 W) (hK:∀ (v:Value) (W':World),(True)→GG (addG D 3) y21 W'→(v = .pointer (some ⟨ab,ao+i,none⟩))→K (fr y0 y1 y2 v y4 y5 y6 y7 y8 y9 y10 y11 y12 y13 y14 y15 y16 y17 y18 y19 y20 y21) W'):Oper.wp Tryz.prog oRen9_3 (fr y0 y1 y2 y3 y4 y5 y6 y7 y8 y9 y10 y11 y12 y13 y14 y15 y16 y17 y18 y19 y20 y21) W K Q:=by
  subst hfr hGG
  unfold oRen9_3
  obtain ⟨⟨_,rfl⟩,⟨_,rfl⟩,-⟩:=hd
  obtain ⟨g1,g2,g3⟩:=hG
  go_simp
  exact hK _ _ trivial ⟨g1,g2,g3⟩ rfl
 have st4 {D:Nat→Bool} {y0 y1 y2 y3 y4 y5 y6 y7 y8 y9 y10 y11 y12 y13 y14 y15 y16 y17 y18 y19 y20 y21:Value} {W:World} {K:Act→World→Prop} (hD:D 4=false) (hcl:ClG opsRen9.toArray D) (hd:(D 3=true∧y3 = .pointer (some ⟨ab,ao+i,none⟩))∧True) (hG:GG D y21 W) (hK:∀ (v:Value) (W':World),(True)→GG (addG D 4) y21 W'→(v = .slice (some ⟨mb,mo,none⟩) lm mc)→K (fr y0 y1 y2 y3 v y5 y6 y7 y8 y9 y10 y11 y12 y13 y14 y15 y16 y17 y18 y19 y20 y21) W'):Oper.wp Tryz.prog oRen9_4 (fr y0 y1 y2 y3 y4 y5 y6 y7 y8 y9 y10 y11 y12 y13 y14 y15 y16 y17 y18 y19 y20 y21) W K Q:=by
  subst hfr hGG
  unfold oRen9_4
  obtain ⟨⟨_,rfl⟩,-⟩:=hd
  obtain ⟨g1,g2,g3⟩:=hG
  have c:=cell_kept g1 pc
  go_simp
  exact hK _ _ trivial ⟨g1,g2,g3⟩ rfl
 have st5 {D:Nat→Bool} {y0 y1 y2 y3 y4 y5 y6 y7 y8 y9 y10 y11 y12 y13 y14 y15 y16 y17 y18 y19 y20 y21:Value} {W:World} {K:Act→World→Prop} (hD:D 5=false) (hcl:ClG opsRen9.toArray D) (hd:True) (hG:GG D y21 W) (hK:∀ (v:Value) (W':World),(True)→GG (addG D 5) y21 W'→(v = .int .i64 (j:Int))→K (fr y0 y1 y2 y3 y4 v y6 y7 y8 y9 y10 y11 y12 y13 y14 y15 y16 y17 y18 y19 y20 y21) W'):Oper.wp Tryz.prog oRen9_5 (fr y0 y1 y2 y3 y4 y5 y6 y7 y8 y9 y10 y11 y12 y13 y14 y15 y16 y17 y18 y19 y20 y21) W K Q:=by
  subst hfr hGG
  unfold oRen9_5
  obtain ⟨g1,g2,g3⟩:=hG
  go_simp
  exact hK _ _ trivial ⟨g1,g2,g3⟩ rfl
 have st6 {D:Nat→Bool} {y0 y1 y2 y3 y4 y5 y6 y7 y8 y9 y10 y11 y12 y13 y14 y15 y16 y17 y18 y19 y20 y21:Value} {W:World} {K:Act→World→Prop} (hD:D 6=false) (hcl:ClG opsRen9.toArray D) (hd:(D 4=true∧y4 = .slice (some ⟨mb,mo,none⟩) lm mc)∧(D 5=true∧y5 = .int .i64 (j:Int))∧True) (hG:GG D y21 W) (hK:∀ (v:Value) (W':World),(True)→GG (addG D 6) y21 W'→(v = .pointer (some ⟨mb,mo+j * 8,none⟩))→K (fr y0 y1 y2 y3 y4 y5 v y7 y8 y9 y10 y11 y12 y13 y14 y15 y16 y17 y18 y19 y20 y21) W'):Oper.wp Tryz.prog oRen9_6 (fr y0 y1 y2 y3 y4 y5 y6 y7 y8 y9 y10 y11 y12 y13 y14 y15 y16 y17 y18 y19 y20 y21) W K Q:=by
  subst hfr hGG
  unfold oRen9_6
  obtain ⟨⟨_,rfl⟩,⟨_,rfl⟩,-⟩:=hd
  obtain ⟨g1,g2,g3⟩:=hG
  go_simp
  exact hK _ _ trivial ⟨g1,g2,g3⟩ rfl
 have st7 {D:Nat→Bool} {y0 y1 y2 y3 y4 y5 y6 y7 y8 y9 y10 y11 y12 y13 y14 y15 y16 y17 y18 y19 y20 y21:Value} {W:World} {K:Act→World→Prop} (hD:D 7=false) (hcl:ClG opsRen9.toArray D) (hd:(D 6=true∧y6 = .pointer (some ⟨mb,mo+j * 8,none⟩))∧True) (hG:GG D y21 W) (hK:∀ (v:Value) (W':World),(True)→GG (addG D 7) y21 W'→(v = .pointer (some ⟨mb,mo+j * 8,none⟩))→K (fr y0 y1 y2 y3 y4 y5 y6 v y8 y9 y10 y11 y12 y13 y14 y15 y16 y17 y18 y19 y20 y21) W'):Oper.wp Tryz.prog oRen9_7 (fr y0 y1 y2 y3 y4 y5 y6 y7 y8 y9 y10 y11 y12 y13 y14 y15 y16 y17 y18 y19 y20 y21) W K Q:=by
  subst hfr hGG
  unfold oRen9_7
  obtain ⟨⟨_,rfl⟩,-⟩:=hd
  obtain ⟨g1,g2,g3⟩:=hG
  go_simp
  exact hK _ _ trivial ⟨g1,g2,g3⟩ rfl
 have st8 {D:Nat→Bool} {y0 y1 y2 y3 y4 y5 y6 y7 y8 y9 y10 y11 y12 y13 y14 y15 y16 y17 y18 y19 y20 y21:Value} {W:World} {K:Act→World→Prop} (hD:D 8=false) (hcl:ClG opsRen9.toArray D) (hd:(D 7=true∧y7 = .pointer (some ⟨mb,mo+j * 8,none⟩))∧True) (hG:GG D y21 W) (hK:∀ (v:Value) (W':World),(True)→GG (addG D 8) y21 W'→(v = .agg #[.int .i64 r0,.int .i64 r1,.int .i64 r2,.int .i64 r3,.int .i64 r4,.int .i64 r5,.int .i64 r6])→K (fr y0 y1 y2 y3 y4 y5 y6 y7 v y9 y10 y11 y12 y13 y14 y15 y16 y17 y18 y19 y20 y21) W'):Oper.wp Tryz.prog oRen9_8 (fr y0 y1 y2 y3 y4 y5 y6 y7 y8 y9 y10 y11 y12 y13 y14 y15 y16 y17 y18 y19 y20 y21) W K Q:=by
  subst hfr hGG
  unfold oRen9_8
  obtain ⟨⟨_,rfl⟩,-⟩:=hd
  obtain ⟨g1,g2,g3⟩:=hG
  have c0:=cell_kept g1 q0
  have c1:=cell_kept g1 q1
  have c2:=cell_kept g1 q2
  have c3:=cell_kept g1 q3
  have c4:=cell_kept g1 q4
  have c5:=cell_kept g1 q5
  have c6:=cell_kept g1 q6
  go_simp
  exact hK _ _ trivial ⟨g1,g2,g3⟩ rfl
 have st9 {D:Nat→Bool} {y0 y1 y2 y3 y4 y5 y6 y7 y8 y9 y10 y11 y12 y13 y14 y15 y16 y17 y18 y19 y20 y21:Value} {W:World} {K:Act→World→Prop} (hD:D 9=false) (hcl:ClG opsRen9.toArray D) (hd:True) (hG:GG D y21 W) (hK:∀ (v:Value) (W':World),(True)→GG (addG D 9) y21 W'→(v = .slice ua ul uc)→K (fr y0 y1 y2 y3 y4 y5 y6 y7 y8 v y10 y11 y12 y13 y14 y15 y16 y17 y18 y19 y20 y21) W'):Oper.wp Tryz.prog oRen9_9 (fr y0 y1 y2 y3 y4 y5 y6 y7 y8 y9 y10 y11 y12 y13 y14 y15 y16 y17 y18 y19 y20 y21) W K Q:=by
  subst hfr hGG
  unfold oRen9_9
  obtain ⟨g1,g2,g3⟩:=hG
  go_simp
  exact hK _ _ trivial ⟨g1,g2,g3⟩ rfl
 have st10 {D:Nat→Bool} {y0 y1 y2 y3 y4 y5 y6 y7 y8 y9 y10 y11 y12 y13 y14 y15 y16 y17 y18 y19 y20 y21:Value} {W:World} {K:Act→World→Prop} (hD:D 10=false) (hcl:ClG opsRen9.toArray D) (hd:(D 8=true∧y8 = .agg #[.int .i64 r0,.int .i64 r1,.int .i64 r2,.int .i64 r3,.int .i64 r4,.int .i64 r5,.int .i64 r6])∧(D 9=true∧y9 = .slice ua ul uc)∧True) (hG:GG D y21 W) (hK:∀ (v:Value) (W':World),(True)→GG (addG D 10) y21 W'→(v = .agg #[.int .i64 k0,.int .i64 k1,.int .i64 k2,.int .i64 k3,.int .i64 k4,.int .i64 k5,.int .i64 k6])→K (fr y0 y1 y2 y3 y4 y5 y6 y7 y8 y9 v y11 y12 y13 y14 y15 y16 y17 y18 y19 y20 y21) W'):Oper.wp Tryz.prog oRen9_10 (fr y0 y1 y2 y3 y4 y5 y6 y7 y8 y9 y10 y11 y12 y13 y14 y15 y16 y17 y18 y19 y20 y21) W K Q:=by
  subst hfr hGG
  unfold oRen9_10
  obtain ⟨⟨_,rfl⟩,⟨_,rfl⟩,-⟩:=hd
  obtain ⟨g1,g2,g3⟩:=hG
  have HM:=HC W g1
  go_simp
  refine HM.mono ?_
  rintro e W9 ⟨rfl,hb9⟩
  exact hK _ _ trivial ⟨btt g1 hb9,fun h1 h2=>by obtain ⟨b,z1,z2,z3⟩:=g2 h1 h2; exact ⟨b,z1,z2,(hb9.block b (Array.getElem?_eq_some_iff.1 z3).1).trans z3⟩,fun h=>by obtain ⟨b,z1,z2,z3⟩:=g3 h; exact ⟨b,z1,z2,(hb9.block b (Array.getElem?_eq_some_iff.1 z3).1).trans z3⟩⟩ rfl
 have st11 {D:Nat→Bool} {y0 y1 y2 y3 y4 y5 y6 y7 y8 y9 y10 y11 y12 y13 y14 y15 y16 y17 y18 y19 y20 y21:Value} {W:World} {K:Act→World→Prop} (hD:D 11=false) (hcl:ClG opsRen9.toArray D) (hd:True) (hG:GG D y21 W) (hK:∀ (v:Value) (W':World),(True)→GG (addG D 11) y21 W'→(v = .pointer (some ⟨b2,1,none⟩))→K (fr y0 y1 y2 y3 y4 y5 y6 y7 y8 y9 y10 v y12 y13 y14 y15 y16 y17 y18 y19 y20 y21) W'):Oper.wp Tryz.prog oRen9_11 (fr y0 y1 y2 y3 y4 y5 y6 y7 y8 y9 y10 y11 y12 y13 y14 y15 y16 y17 y18 y19 y20 y21) W K Q:=by
  subst hfr hGG
  unfold oRen9_11
  obtain ⟨g1,g2,g3⟩:=hG
  go_simp
  exact hK _ _ trivial ⟨g1,g2,g3⟩ rfl
 have st12 {D:Nat→Bool} {y0 y1 y2 y3 y4 y5 y6 y7 y8 y9 y10 y11 y12 y13 y14 y15 y16 y17 y18 y19 y20 y21:Value} {W:World} {K:Act→World→Prop} (hD:D 12=false) (hcl:ClG opsRen9.toArray D) (hd:(D 11=true∧y11 = .pointer (some ⟨b2,1,none⟩))∧True) (hG:GG D y21 W) (hK:∀ (v:Value) (W':World),(True)→GG (addG D 12) y21 W'→(v = .slice (some ⟨ab,ao,none⟩) ls sc)→K (fr y0 y1 y2 y3 y4 y5 y6 y7 y8 y9 y10 y11 v y13 y14 y15 y16 y17 y18 y19 y20 y21) W'):Oper.wp Tryz.prog oRen9_12 (fr y0 y1 y2 y3 y4 y5 y6 y7 y8 y9 y10 y11 y12 y13 y14 y15 y16 y17 y18 y19 y20 y21) W K Q:=by
  subst hfr hGG
  unfold oRen9_12
  obtain ⟨⟨_,rfl⟩,-⟩:=hd
  obtain ⟨g1,g2,g3⟩:=hG
  have c:=cell_kept g1 p1
  go_simp
  exact hK _ _ trivial ⟨g1,g2,g3⟩ rfl
 have st13 {D:Nat→Bool} {y0 y1 y2 y3 y4 y5 y6 y7 y8 y9 y10 y11 y12 y13 y14 y15 y16 y17 y18 y19 y20 y21:Value} {W:World} {K:Act→World→Prop} (hD:D 13=false) (hcl:ClG opsRen9.toArray D) (hd:True) (hG:GG D y21 W) (hK:∀ (v:Value) (W':World),(True)→GG (addG D 13) y21 W'→(v = .int .i64 (i:Int))→K (fr y0 y1 y2 y3 y4 y5 y6 y7 y8 y9 y10 y11 y12 v y14 y15 y16 y17 y18 y19 y20 y21) W'):Oper.wp Tryz.prog oRen9_13 (fr y0 y1 y2 y3 y4 y5 y6 y7 y8 y9 y10 y11 y12 y13 y14 y15 y16 y17 y18 y19 y20 y21) W K Q:=by
  subst hfr hGG
  unfold oRen9_13
  obtain ⟨g1,g2,g3⟩:=hG
  go_simp
  exact hK _ _ trivial ⟨g1,g2,g3⟩ rfl
 have st14 {D:Nat→Bool} {y0 y1 y2 y3 y4 y5 y6 y7 y8 y9 y10 y11 y12 y13 y14 y15 y16 y17 y18 y19 y20 y21:Value} {W:World} {K:Act→World→Prop} (hD:D 14=false) (hcl:ClG opsRen9.toArray D) (hd:(D 12=true∧y12 = .slice (some ⟨ab,ao,none⟩) ls sc)∧(D 13=true∧y13 = .int .i64 (i:Int))∧True) (hG:GG D y21 W) (hK:∀ (v:Value) (W':World),(True)→GG (addG D 14) y21 W'→(v = .pointer (some ⟨ab,ao+i,none⟩))→K (fr y0 y1 y2 y3 y4 y5 y6 y7 y8 y9 y10 y11 y12 y13 v y15 y16 y17 y18 y19 y20 y21) W'):Oper.wp Tryz.prog oRen9_14 (fr y0 y1 y2 y3 y4 y5 y6 y7 y8 y9 y10 y11 y12 y13 y14 y15 y16 y17 y18 y19 y20 y21) W K Q:=by
  subst hfr hGG
  unfold oRen9_14
  obtain ⟨⟨_,rfl⟩,⟨_,rfl⟩,-⟩:=hd
  obtain ⟨g1,g2,g3⟩:=hG
  go_simp
  exact hK _ _ trivial ⟨g1,g2,g3⟩ rfl
 have st15 {D:Nat→Bool} {y0 y1 y2 y3 y4 y5 y6 y7 y8 y9 y10 y11 y12 y13 y14 y15 y16 y17 y18 y19 y20 y21:Value} {W:World} {K:Act→World→Prop} (hD:D 15=false) (hcl:ClG opsRen9.toArray D) (hd:(D 14=true∧y14 = .pointer (some ⟨ab,ao+i,none⟩))∧True) (hG:GG D y21 W) (hK:∀ (v:Value) (W':World),(True)→GG (addG D 15) y21 W'→(v = .slice (some ⟨mb,mo,none⟩) lm mc)→K (fr y0 y1 y2 y3 y4 y5 y6 y7 y8 y9 y10 y11 y12 y13 y14 v y16 y17 y18 y19 y20 y21) W'):Oper.wp Tryz.prog oRen9_15 (fr y0 y1 y2 y3 y4 y5 y6 y7 y8 y9 y10 y11 y12 y13 y14 y15 y16 y17 y18 y19 y20 y21) W K Q:=by
  subst hfr hGG
  unfold oRen9_15
  obtain ⟨⟨_,rfl⟩,-⟩:=hd
  obtain ⟨g1,g2,g3⟩:=hG
  have c:=cell_kept g1 pc
  go_simp
  exact hK _ _ trivial ⟨g1,g2,g3⟩ rfl
 have st16 {D:Nat→Bool} {y0 y1 y2 y3 y4 y5 y6 y7 y8 y9 y10 y11 y12 y13 y14 y15 y16 y17 y18 y19 y20 y21:Value} {W:World} {K:Act→World→Prop} (hD:D 16=false) (hcl:ClG opsRen9.toArray D) (hd:True) (hG:GG D y21 W) (hK:∀ (v:Value) (W':World),(True)→GG (addG D 16) y21 W'→(v = .int .i64 (j:Int))→K (fr y0 y1 y2 y3 y4 y5 y6 y7 y8 y9 y10 y11 y12 y13 y14 y15 v y17 y18 y19 y20 y21) W'):Oper.wp Tryz.prog oRen9_16 (fr y0 y1 y2 y3 y4 y5 y6 y7 y8 y9 y10 y11 y12 y13 y14 y15 y16 y17 y18 y19 y20 y21) W K Q:=by
  subst hfr hGG
  unfold oRen9_16
  obtain ⟨g1,g2,g3⟩:=hG
  go_simp
  exact hK _ _ trivial ⟨g1,g2,g3⟩ rfl
 have st17 {D:Nat→Bool} {y0 y1 y2 y3 y4 y5 y6 y7 y8 y9 y10 y11 y12 y13 y14 y15 y16 y17 y18 y19 y20 y21:Value} {W:World} {K:Act→World→Prop} (hD:D 17=false) (hcl:ClG opsRen9.toArray D) (hd:(D 15=true∧y15 = .slice (some ⟨mb,mo,none⟩) lm mc)∧(D 16=true∧y16 = .int .i64 (j:Int))∧True) (hG:GG D y21 W) (hK:∀ (v:Value) (W':World),(True)→GG (addG D 17) y21 W'→(v = .pointer (some ⟨mb,mo+j * 8,none⟩))→K (fr y0 y1 y2 y3 y4 y5 y6 y7 y8 y9 y10 y11 y12 y13 y14 y15 y16 v y18 y19 y20 y21) W'):Oper.wp Tryz.prog oRen9_17 (fr y0 y1 y2 y3 y4 y5 y6 y7 y8 y9 y10 y11 y12 y13 y14 y15 y16 y17 y18 y19 y20 y21) W K Q:=by
  subst hfr hGG
  unfold oRen9_17
  obtain ⟨⟨_,rfl⟩,⟨_,rfl⟩,-⟩:=hd
  obtain ⟨g1,g2,g3⟩:=hG
  go_simp
  exact hK _ _ trivial ⟨g1,g2,g3⟩ rfl
 have st18 {D:Nat→Bool} {y0 y1 y2 y3 y4 y5 y6 y7 y8 y9 y10 y11 y12 y13 y14 y15 y16 y17 y18 y19 y20 y21:Value} {W:World} {K:Act→World→Prop} (hD:D 18=false) (hcl:ClG opsRen9.toArray D) (hd:(D 17=true∧y17 = .pointer (some ⟨mb,mo+j * 8,none⟩))∧True) (hG:GG D y21 W) (hK:∀ (v:Value) (W':World),(True)→GG (addG D 18) y21 W'→(v = .pointer (some ⟨mb,mo+j * 8+7,none⟩))→K (fr y0 y1 y2 y3 y4 y5 y6 y7 y8 y9 y10 y11 y12 y13 y14 y15 y16 y17 v y19 y20 y21) W'):Oper.wp Tryz.prog oRen9_18 (fr y0 y1 y2 y3 y4 y5 y6 y7 y8 y9 y10 y11 y12 y13 y14 y15 y16 y17 y18 y19 y20 y21) W K Q:=by
  subst hfr hGG
  unfold oRen9_18
  obtain ⟨⟨_,rfl⟩,-⟩:=hd
  obtain ⟨g1,g2,g3⟩:=hG
  go_simp
  exact hK _ _ trivial ⟨g1,g2,g3⟩ rfl
 have st19 {D:Nat→Bool} {y0 y1 y2 y3 y4 y5 y6 y7 y8 y9 y10 y11 y12 y13 y14 y15 y16 y17 y18 y19 y20 y21:Value} {W:World} {K:Act→World→Prop} (hD:D 19=false) (hcl:ClG opsRen9.toArray D) (hd:(D 18=true∧y18 = .pointer (some ⟨mb,mo+j * 8+7,none⟩))∧True) (hG:GG D y21 W) (hK:∀ (v:Value) (W':World),(True)→GG (addG D 19) y21 W'→(v = .int .i64 r7)→K (fr y0 y1 y2 y3 y4 y5 y6 y7 y8 y9 y10 y11 y12 y13 y14 y15 y16 y17 y18 v y20 y21) W'):Oper.wp Tryz.prog oRen9_19 (fr y0 y1 y2 y3 y4 y5 y6 y7 y8 y9 y10 y11 y12 y13 y14 y15 y16 y17 y18 y19 y20 y21) W K Q:=by
  subst hfr hGG
  unfold oRen9_19
  obtain ⟨⟨_,rfl⟩,-⟩:=hd
  obtain ⟨g1,g2,g3⟩:=hG
  have c:=cell_kept g1 q7
  go_simp
  exact hK _ _ trivial ⟨g1,g2,g3⟩ rfl
 have st20 {D:Nat→Bool} {y0 y1 y2 y3 y4 y5 y6 y7 y8 y9 y10 y11 y12 y13 y14 y15 y16 y17 y18 y19 y20 y21:Value} {W:World} {K:Act→World→Prop} (hD:D 20=false) (hcl:ClG opsRen9.toArray D) (hd:(D 10=true∧y10 = .agg #[.int .i64 k0,.int .i64 k1,.int .i64 k2,.int .i64 k3,.int .i64 k4,.int .i64 k5,.int .i64 k6])∧(D 19=true∧y19 = .int .i64 r7)∧True) (hG:GG D y21 W) (hK:∀ (v:Value) (W':World),(True)→GG (addG D 20) y21 W'→(v = .agg #[.int .i64 k0,.int .i64 k1,.int .i64 k2,.int .i64 k3,.int .i64 k4,.int .i64 k5,.int .i64 k6,.int .i64 r7])→K (fr y0 y1 y2 y3 y4 y5 y6 y7 y8 y9 y10 y11 y12 y13 y14 y15 y16 y17 y18 y19 v y21) W'):Oper.wp Tryz.prog oRen9_20 (fr y0 y1 y2 y3 y4 y5 y6 y7 y8 y9 y10 y11 y12 y13 y14 y15 y16 y17 y18 y19 y20 y21) W K Q:=by
  subst hfr hGG
  unfold oRen9_20
  obtain ⟨⟨_,rfl⟩,⟨_,rfl⟩,-⟩:=hd
  obtain ⟨g1,g2,g3⟩:=hG
  go_simp
  exact hK _ _ trivial ⟨g1,g2,g3⟩ rfl
 have st21 {D:Nat→Bool} {y0 y1 y2 y3 y4 y5 y6 y7 y8 y9 y10 y11 y12 y13 y14 y15 y16 y17 y18 y19 y20 y21:Value} {W:World} {K:Act→World→Prop} (hD:D 21=false) (hcl:ClG opsRen9.toArray D) (hd:True) (hG:GG D y21 W) (hK:∀ (v:Value) (W':World),(True)→GG (addG D 21) v W'→(∃ b,v = .pointer (some ⟨b,0,none⟩)∧w.heap.size≤b)→K (fr y0 y1 y2 y3 y4 y5 y6 y7 y8 y9 y10 y11 y12 y13 y14 y15 y16 y17 y18 y19 y20 v) W'):Oper.wp Tryz.prog oRen9_21 (fr y0 y1 y2 y3 y4 y5 y6 y7 y8 y9 y10 y11 y12 y13 y14 y15 y16 y17 y18 y19 y20 y21) W K Q:=by
  subst hfr hGG
  unfold oRen9_21
  obtain ⟨g1,g2,g3⟩:=hG
  have hba:=g1.alloc g1.size (.cells #[.int .i64 0,.int .i64 0,.int .i64 0,.int .i64 0,.int .i64 0,.int .i64 0,.int .i64 0,.int .i64 0] 100)
  go_simp
  exact hK _ _ trivial ⟨hba,fun _ _=>⟨_,rfl,g1.size,heap_alloc_new _ _⟩,fun h=>by have:=hcl 22 _ h rfl 21 (by decide); rw [hD] at this; cases this⟩ ⟨_,rfl,g1.size⟩
 have st22 {D:Nat→Bool} {y0 y1 y2 y3 y4 y5 y6 y7 y8 y9 y10 y11 y12 y13 y14 y15 y16 y17 y18 y19 y20 y21:Value} {W:World} {K:Act→World→Prop} (hD:D 22=false) (hcl:ClG opsRen9.toArray D) (hd:(D 21=true∧∃ b,y21 = .pointer (some ⟨b,0,none⟩)∧w.heap.size≤b)∧(D 20=true∧y20 = .agg #[.int .i64 k0,.int .i64 k1,.int .i64 k2,.int .i64 k3,.int .i64 k4,.int .i64 k5,.int .i64 k6,.int .i64 r7])∧True) (hG:GG D y21 W) (hK:∀ (v:Value) (W':World),(True)→GG (addG D 22) y21 W'→(True)→K (fr y0 y1 y2 y3 y4 y5 y6 y7 y8 y9 y10 y11 y12 y13 y14 y15 y16 y17 y18 y19 y20 y21) W'):Oper.wp Tryz.prog oRen9_22 (fr y0 y1 y2 y3 y4 y5 y6 y7 y8 y9 y10 y11 y12 y13 y14 y15 y16 y17 y18 y19 y20 y21) W K Q:=by
  subst hfr hGG
  unfold oRen9_22
  obtain ⟨⟨d21,e21⟩,⟨_,rfl⟩,-⟩:=hd
  obtain ⟨g1,g2,g3⟩:=hG
  obtain ⟨b,rfl,hbs,hbk⟩:=g2 d21 hD
  obtain ⟨n0,n1,n2,n3,n4,n5,n6,n7⟩:=boxL8 hbk
  obtain ⟨f0,f1,f2,f3,f4,f5,f6,f7⟩:=freeL8 hbk
  go_simp
  refine storeEnd8 (u0:=.int .i64 k0) (u1:=.int .i64 k1) (u2:=.int .i64 k2) (u3:=.int .i64 k3) (u4:=.int .i64 k4) (u5:=.int .i64 k5) (u6:=.int .i64 k6) (u7:=.int .i64 r7) hbk ?_
  intro W9 hW9 hb9 _ hk9 _ _ _ _ _ _ _ _
  rw [← hW9]
  exact hK undef W9 trivial ⟨hb9 _ _ hbs g1,fun _ h=>absurd (show (true:Bool)=false from h) (by decide),fun _=>⟨b,rfl,hbs,hk9⟩⟩ trivial
 subst hfr hGG
 refine wp_region_rg (l:=opsRen9) (fun ys=>⟨List.toArray (x0::.slice ua ul uc::.pointer (some ⟨b2,0,none⟩)::x3::x4::x5::.int .i64 (i:Int)::x7::.int .i64 (j:Int)::ys 21::x10::x11::x12::x13::x14::x15::x16::x17::x18::x19::x20::x21::x22::x23::x24::x25::x26::x27::x28::x29::x30::x31::ys 0::ys 1::ys 2::ys 3::ys 4::ys 5::ys 6::ys 7::ys 8::ys 9::ys 10::ys 11::ys 12::ys 13::ys 14::ys 15::ys 16::ys 17::ys 18::ys 19::ys 20::x53::x54::x55::x56::x57::x58::x59::x60::x61::x62::x63::x64::x65::x66::x67::x68::x69::x70::x71::x72::x73::x74::x75::x76::x77::x78::x79::x80::x81::x82::x83::x84::x85::x86::x87::x88::x89::x90::x91::[]),[]⟩) [fun (_:World) (v:Value)=>v = .pointer (some ⟨b2,1,none⟩),fun (_:World) (v:Value)=>v = .slice (some ⟨ab,ao,none⟩) ls sc,fun (_:World) (v:Value)=>v = .int .i64 (i:Int),fun (_:World) (v:Value)=>v = .pointer (some ⟨ab,ao+i,none⟩),fun (_:World) (v:Value)=>v = .slice (some ⟨mb,mo,none⟩) lm mc,fun (_:World) (v:Value)=>v = .int .i64 (j:Int),fun (_:World) (v:Value)=>v = .pointer (some ⟨mb,mo+j * 8,none⟩),fun (_:World) (v:Value)=>v = .pointer (some ⟨mb,mo+j * 8,none⟩),fun (_:World) (v:Value)=>v = .agg #[.int .i64 r0,.int .i64 r1,.int .i64 r2,.int .i64 r3,.int .i64 r4,.int .i64 r5,.int .i64 r6],fun (_:World) (v:Value)=>v = .slice ua ul uc,fun (_:World) (v:Value)=>v = .agg #[.int .i64 k0,.int .i64 k1,.int .i64 k2,.int .i64 k3,.int .i64 k4,.int .i64 k5,.int .i64 k6],fun (_:World) (v:Value)=>v = .pointer (some ⟨b2,1,none⟩),fun (_:World) (v:Value)=>v = .slice (some ⟨ab,ao,none⟩) ls sc,fun (_:World) (v:Value)=>v = .int .i64 (i:Int),fun (_:World) (v:Value)=>v = .pointer (some ⟨ab,ao+i,none⟩),fun (_:World) (v:Value)=>v = .slice (some ⟨mb,mo,none⟩) lm mc,fun (_:World) (v:Value)=>v = .int .i64 (j:Int),fun (_:World) (v:Value)=>v = .pointer (some ⟨mb,mo+j * 8,none⟩),fun (_:World) (v:Value)=>v = .pointer (some ⟨mb,mo+j * 8+7,none⟩),fun (_:World) (v:Value)=>v = .int .i64 r7,fun (_:World) (v:Value)=>v = .agg #[.int .i64 k0,.int .i64 k1,.int .i64 k2,.int .i64 k3,.int .i64 k4,.int .i64 k5,.int .i64 k6,.int .i64 r7],fun (_:World) (v:Value)=>∃ b,v = .pointer (some ⟨b,0,none⟩)∧w.heap.size≤b,fun (_:World) (_:Value)=>True] (fun W W'=>True) (fun D ys W=>Below w.heap.size w W∧(D 21=true→D 22=false→∃ b,(ys 21) = .pointer (some ⟨b,0,none⟩)∧w.heap.size≤b∧W.heap[b]? = some (.cells #[.int .i64 0,.int .i64 0,.int .i64 0,.int .i64 0,.int .i64 0,.int .i64 0,.int .i64 0,.int .i64 0] 100))∧(D 22=true→∃ b,(ys 21) = .pointer (some ⟨b,0,none⟩)∧w.heap.size≤b∧W.heap[b]? = some (.cells #[.int .i64 k0,.int .i64 k1,.int .i64 k2,.int .i64 k3,.int .i64 k4,.int .i64 k5,.int .i64 k6,.int .i64 r7] 100))) (fun i=>([x32,x33,x34,x35,x36,x37,x38,x39,x40,x41,x42,x43,x44,x45,x46,x47,x48,x49,x50,x51,x52,x9,undef]:List Value).getD i undef) (by kernel_rfl) (by kernel_rfl) ⟨fun _ _ _ h _=>h,fun _ _ _ h _=>h,fun _ _ _ h _=>h,fun _ _ _ h _=>h,fun _ _ _ h _=>h,fun _ _ _ h _=>h,fun _ _ _ h _=>h,fun _ _ _ h _=>h,fun _ _ _ h _=>h,fun _ _ _ h _=>h,fun _ _ _ h _=>h,fun _ _ _ h _=>h,fun _ _ _ h _=>h,fun _ _ _ h _=>h,fun _ _ _ h _=>h,fun _ _ _ h _=>h,fun _ _ _ h _=>h,fun _ _ _ h _=>h,fun _ _ _ h _=>h,fun _ _ _ h _=>h,fun _ _ _ h _=>h,fun _ _ _ h _=>h,fun _ _ _ h _=>h,trivial⟩ ?g0 ?gx ⟨fun D ys W K h1 h2 h3 h4 h5=>by rw [if_pos (by rfl)]; exact st0 h1 h2 trivial h4 h5,fun D ys W K h1 h2 h3 h4 h5=>by rw [if_pos (by rfl)]; exact st1 h1 h2 h3 h4 h5,fun D ys W K h1 h2 h3 h4 h5=>by rw [if_pos (by rfl)]; exact st2 h1 h2 trivial h4 h5,fun D ys W K h1 h2 h3 h4 h5=>by rw [if_pos (by rfl)]; exact st3 h1 h2 h3 h4 h5,fun D ys W K h1 h2 h3 h4 h5=>by rw [if_pos (by rfl)]; exact st4 h1 h2 h3 h4 h5,fun D ys W K h1 h2 h3 h4 h5=>by rw [if_pos (by rfl)]; exact st5 h1 h2 trivial h4 h5,fun D ys W K h1 h2 h3 h4 h5=>by rw [if_pos (by rfl)]; exact st6 h1 h2 h3 h4 h5,fun D ys W K h1 h2 h3 h4 h5=>by rw [if_pos (by rfl)]; exact st7 h1 h2 h3 h4 h5,fun D ys W K h1 h2 h3 h4 h5=>by rw [if_pos (by rfl)]; exact st8 h1 h2 h3 h4 h5,fun D ys W K h1 h2 h3 h4 h5=>by rw [if_pos (by rfl)]; exact st9 h1 h2 trivial h4 h5,fun D ys W K h1 h2 h3 h4 h5=>by rw [if_pos (by rfl)]; exact st10 h1 h2 h3 h4 h5,fun D ys W K h1 h2 h3 h4 h5=>by rw [if_pos (by rfl)]; exact st11 h1 h2 trivial h4 h5,fun D ys W K h1 h2 h3 h4 h5=>by rw [if_pos (by rfl)]; exact st12 h1 h2 h3 h4 h5,fun D ys W K h1 h2 h3 h4 h5=>by rw [if_pos (by rfl)]; exact st13 h1 h2 trivial h4 h5,fun D ys W K h1 h2 h3 h4 h5=>by rw [if_pos (by rfl)]; exact st14 h1 h2 h3 h4 h5,fun D ys W K h1 h2 h3 h4 h5=>by rw [if_pos (by rfl)]; exact st15 h1 h2 h3 h4 h5,fun D ys W K h1 h2 h3 h4 h5=>by rw [if_pos (by rfl)]; exact st16 h1 h2 trivial h4 h5,fun D ys W K h1 h2 h3 h4 h5=>by rw [if_pos (by rfl)]; exact st17 h1 h2 h3 h4 h5,fun D ys W K h1 h2 h3 h4 h5=>by rw [if_pos (by rfl)]; exact st18 h1 h2 h3 h4 h5,fun D ys W K h1 h2 h3 h4 h5=>by rw [if_pos (by rfl)]; exact st19 h1 h2 h3 h4 h5,fun D ys W K h1 h2 h3 h4 h5=>by rw [if_pos (by rfl)]; exact st20 h1 h2 h3 h4 h5,fun D ys W K h1 h2 h3 h4 h5=>by rw [if_pos (by rfl)]; exact st21 h1 h2 trivial h4 h5,fun D ys W K h1 h2 h3 h4 h5=>by rw [if_pos (by rfl)]; exact st22 h1 h2 ⟨h3.1,h3.2.1,trivial⟩ h4 h5,trivial⟩ ?fin
 case g0=>exact ⟨below_drewN (Below.refl w.heap.size w) 1,(fun h=>by cases h),(fun h=>by cases h)⟩
 case gx=>exact fun D D' ys W h ⟨h1,h2,h3⟩=>⟨h1,fun q q'=>h2 ((h 21 (by decide)).trans q) ((h 22 (by decide)).trans q'),fun q=>h3 ((h 22 (by decide)).trans q)⟩
 case fin=>
  intro ys W hG hp
  have e0:ys 0 = .pointer (some ⟨b2,1,none⟩):=hp 0 (by decide)
  have e1:ys 1 = .slice (some ⟨ab,ao,none⟩) ls sc:=hp 1 (by decide)
  have e2:ys 2 = .int .i64 (i:Int):=hp 2 (by decide)
  have e3:ys 3 = .pointer (some ⟨ab,ao+i,none⟩):=hp 3 (by decide)
  have e4:ys 4 = .slice (some ⟨mb,mo,none⟩) lm mc:=hp 4 (by decide)
  have e5:ys 5 = .int .i64 (j:Int):=hp 5 (by decide)
  have e6:ys 6 = .pointer (some ⟨mb,mo+j * 8,none⟩):=hp 6 (by decide)
  have e7:ys 7 = .pointer (some ⟨mb,mo+j * 8,none⟩):=hp 7 (by decide)
  have e8:ys 8 = .agg #[.int .i64 r0,.int .i64 r1,.int .i64 r2,.int .i64 r3,.int .i64 r4,.int .i64 r5,.int .i64 r6]:=hp 8 (by decide)
  have e9:ys 9 = .slice ua ul uc:=hp 9 (by decide)
  have e10:ys 10 = .agg #[.int .i64 k0,.int .i64 k1,.int .i64 k2,.int .i64 k3,.int .i64 k4,.int .i64 k5,.int .i64 k6]:=hp 10 (by decide)
  have e11:ys 11 = .pointer (some ⟨b2,1,none⟩):=hp 11 (by decide)
  have e12:ys 12 = .slice (some ⟨ab,ao,none⟩) ls sc:=hp 12 (by decide)
  have e13:ys 13 = .int .i64 (i:Int):=hp 13 (by decide)
  have e14:ys 14 = .pointer (some ⟨ab,ao+i,none⟩):=hp 14 (by decide)
  have e15:ys 15 = .slice (some ⟨mb,mo,none⟩) lm mc:=hp 15 (by decide)
  have e16:ys 16 = .int .i64 (j:Int):=hp 16 (by decide)
  have e17:ys 17 = .pointer (some ⟨mb,mo+j * 8,none⟩):=hp 17 (by decide)
  have e18:ys 18 = .pointer (some ⟨mb,mo+j * 8+7,none⟩):=hp 18 (by decide)
  have e19:ys 19 = .int .i64 r7:=hp 19 (by decide)
  have e20:ys 20 = .agg #[.int .i64 k0,.int .i64 k1,.int .i64 k2,.int .i64 k3,.int .i64 k4,.int .i64 k5,.int .i64 k6,.int .i64 r7]:=hp 20 (by decide)
  show Q .normal ⟨List.toArray (x0::.slice ua ul uc::.pointer (some ⟨b2,0,none⟩)::x3::x4::x5::.int .i64 (i:Int)::x7::.int .i64 (j:Int)::(ys 21)::x10::x11::x12::x13::x14::x15::x16::x17::x18::x19::x20::x21::x22::x23::x24::x25::x26::x27::x28::x29::x30::x31::(ys 0)::(ys 1)::(ys 2)::(ys 3)::(ys 4)::(ys 5)::(ys 6)::(ys 7)::(ys 8)::(ys 9)::(ys 10)::(ys 11)::(ys 12)::(ys 13)::(ys 14)::(ys 15)::(ys 16)::(ys 17)::(ys 18)::(ys 19)::(ys 20)::x53::x54::x55::x56::x57::x58::x59::x60::x61::x62::x63::x64::x65::x66::x67::x68::x69::x70::x71::x72::x73::x74::x75::x76::x77::x78::x79::x80::x81::x82::x83::x84::x85::x86::x87::x88::x89::x90::x91::[]),[]⟩ W
  rw [e0,e1,e2,e3,e4,e5,e6,e7,e8,e9,e10,e11,e12,e13,e14,e15,e16,e17,e18,e19,e20]
  exact hfin (ys 21) (ys 22) W hG (hp 21 (by decide)) (hp 22 (by decide))
end Go.Proofs.YtmikofeildnpdaaGreat
