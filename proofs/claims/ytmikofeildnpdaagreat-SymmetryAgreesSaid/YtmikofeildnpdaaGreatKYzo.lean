/- Texts of this claim, put together: YL0 TE. -/
import Derived.Test.YtmikofeildnpdaaGreatKYzh
import Derived.Test.YtmikofeildnpdaaGreatKYs
import Derived.Test.YtmikofeildnpdaaGreatKYv
import Derived.Test.YtmikofeildnpdaaGreatKYze

set_option maxRecDepth 100000
set_option maxHeartbeats 12800000
/- roundtableref11.Same: its region 6. -/
namespace Go.Proofs.YtmikofeildnpdaaGreat
open Go.RowKit
def oSame6_0:Oper:=⟨some 43,Op.fieldAddr 64 (Operand.tmp 2) 3,0,"ref.go:356",#[],none⟩
def oSame6_1:Oper:=⟨some 44,Op.load 62 (Operand.tmp 43),62,"ref.go:356",#[⟨0,.data⟩],none⟩
def oSame6_2:Oper:=⟨some 45,Op.move (Operand.tmp 5),3,"ref.go:356",#[],none⟩
def oSame6_3:Oper:=⟨some 46,Op.indexAddr 62 (Operand.tmp 44) (Operand.tmp 45),0,"ref.go:356",#[⟨1,.data⟩,⟨2,.data⟩],none⟩
def oSame6_4:Oper:=⟨some 47,Op.load 128 (Operand.tmp 46),128,"ref.go:356",#[⟨3,.data⟩],none⟩
def oSame6_5:Oper:=⟨some 48,Op.fieldAddr 64 (Operand.tmp 3) 3,0,"ref.go:356",#[{ on:=12,ground:=Ground.gcOnly Departure.lateStores }],none⟩
def oSame6_6:Oper:=⟨some 49,Op.load 62 (Operand.tmp 48),62,"ref.go:356",#[⟨5,.data⟩,{ on:=12,ground:=Ground.gcOnly Departure.lateStores }],none⟩
def oSame6_7:Oper:=⟨some 50,Op.move (Operand.tmp 5),3,"ref.go:356",#[{ on:=12,ground:=Ground.gcOnly Departure.lateStores }],none⟩
def oSame6_8:Oper:=⟨some 51,Op.indexAddr 62 (Operand.tmp 49) (Operand.tmp 50),0,"ref.go:356",#[⟨6,.data⟩,⟨7,.data⟩,{ on:=12,ground:=Ground.gcOnly Departure.lateStores }],none⟩
def oSame6_9:Oper:=⟨some 52,Op.load 128 (Operand.tmp 51),128,"ref.go:356",#[⟨8,.data⟩,{ on:=12,ground:=Ground.gcOnly Departure.lateStores }],none⟩
def oSame6_10:Oper:=⟨some 6,Op.alloc 128,0,"ref.go:356",#[],none⟩
def oSame6_11:Oper:=⟨some 7,Op.alloc 128,0,"ref.go:356",#[],none⟩
def oSame6_12:Oper:=⟨none,Op.store 128 (Operand.tmp 6) (Operand.tmp 47),0,"ref.go:356",#[⟨10,.data⟩,⟨4,.data⟩,⟨0,.phase⟩,⟨1,.phase⟩,⟨2,.phase⟩,⟨3,.phase⟩,⟨4,.phase⟩,{ on:=5,ground:=Ground.textOnly Departure.lateStores },{ on:=6,ground:=Ground.textOnly Departure.lateStores },{ on:=7,ground:=Ground.textOnly Departure.lateStores },{ on:=8,ground:=Ground.textOnly Departure.lateStores },{ on:=9,ground:=Ground.textOnly Departure.lateStores },⟨10,.phase⟩,⟨11,.phase⟩],none⟩
def oSame6_13:Oper:=⟨none,Op.store 128 (Operand.tmp 7) (Operand.tmp 52),0,"ref.go:356",#[⟨11,.data⟩,⟨9,.data⟩,⟨12,.chain⟩,⟨0,.phase⟩,⟨1,.phase⟩,⟨2,.phase⟩,⟨3,.phase⟩,⟨4,.phase⟩,⟨5,.phase⟩,⟨6,.phase⟩,⟨7,.phase⟩,⟨8,.phase⟩,⟨9,.phase⟩,⟨10,.phase⟩,⟨11,.phase⟩,⟨12,.phase⟩],none⟩
def opsSame6:List Oper:=[oSame6_0,oSame6_1,oSame6_2,oSame6_3,oSame6_4,oSame6_5,oSame6_6,oSame6_7,oSame6_8,oSame6_9,oSame6_10,oSame6_11,oSame6_12,oSame6_13]
theorem regSame6 {w:World} {x0 x1 x4 x6 x7 x8 x9 x10 x11 x12 x13 x14 x15 x16 x17 x18 x19 x20 x21 x22 x23 x24 x25 x26 x27 x28 x29 x30 x31 x32 x33 x34 x35 x36 x37 x38 x39 x40 x41 x42 x43 x44 x45 x46 x47 x48 x49 x50 x51 x52 x53 x54 x55 x56 x57 x58 x59 x60 x61 x62 x63 x64 x65 x66 x67 x68 x69 x70 x71 x72 x73 x74:Value} {Q:Exit→Act→World→Prop} {b2 b3 xb xo yb yo lx ly xc yc i:Nat} {ul0 ul1 ul2 uc0 uc1 uc2 vl0 vl1 vl2 vc0 vc1 vc2:Nat} {ua0 ua1 ua2 va0 va1 va2:Option Addr}
  (p2:w.cell? ⟨b2,3,none⟩=some (.slice (some ⟨xb,xo,none⟩) lx xc)) (p3:w.cell? ⟨b3,3,none⟩=some (.slice (some ⟨yb,yo,none⟩) ly yc)) (hi:(i:Int) < (lx:Int)) (hj:(i:Int) < (ly:Int))
  (q0:w.cell? ⟨xb,xo+i * 3,none⟩=some (.slice ua0 ul0 uc0)) (q1:w.cell? ⟨xb,xo+i * 3+1,none⟩=some (.slice ua1 ul1 uc1)) (q2:w.cell? ⟨xb,xo+i * 3+2,none⟩=some (.slice ua2 ul2 uc2))
  (r0:w.cell? ⟨yb,yo+i * 3,none⟩=some (.slice va0 vl0 vc0)) (r1:w.cell? ⟨yb,yo+i * 3+1,none⟩=some (.slice va1 vl1 vc1)) (r2:w.cell? ⟨yb,yo+i * 3+2,none⟩=some (.slice va2 vl2 vc2))
  (hfin:∀ (y10 y11 _y12 _y13:Value) (W:World),(Below w.heap.size w W∧((fun i=>decide (i < 14)) 10=true→(fun i=>decide (i < 14)) 12=false→∃ b,y10 = .pointer (some ⟨b,0,none⟩)∧w.heap.size≤b∧W.heap[b]? = some (.cells #[.slice none 0 0,.slice none 0 0,.slice none 0 0] 128))∧((fun i=>decide (i < 14)) 12=true→∃ b,y10 = .pointer (some ⟨b,0,none⟩)∧w.heap.size≤b∧W.heap[b]? = some (.cells #[.slice ua0 ul0 uc0,.slice ua1 ul1 uc1,.slice ua2 ul2 uc2] 128))∧((fun i=>decide (i < 14)) 11=true→(fun i=>decide (i < 14)) 13=false→∃ b,y11 = .pointer (some ⟨b,0,none⟩)∧w.heap.size≤b∧W.heap[b]? = some (.cells #[.slice none 0 0,.slice none 0 0,.slice none 0 0] 128))∧((fun i=>decide (i < 14)) 13=true→∃ b,y11 = .pointer (some ⟨b,0,none⟩)∧w.heap.size≤b∧W.heap[b]? = some (.cells #[.slice va0 vl0 vc0,.slice va1 vl1 vc1,.slice va2 vl2 vc2] 128))∧((fun i=>decide (i < 14)) 10=true→(fun i=>decide (i < 14)) 11=true→y10 ≠ y11))→(∃ b,y10 = .pointer (some ⟨b,0,none⟩)∧w.heap.size≤b)→(∃ b,y11 = .pointer (some ⟨b,0,none⟩)∧w.heap.size≤b)→(True)→(True)→Q .normal ⟨List.toArray (x0::x1::.pointer (some ⟨b2,0,none⟩)::.pointer (some ⟨b3,0,none⟩)::x4::.int .i64 (i:Int)::y10::y11::x8::x9::x10::x11::x12::x13::x14::x15::x16::x17::x18::x19::x20::x21::x22::x23::x24::x25::x26::x27::x28::x29::x30::x31::x32::x33::x34::x35::x36::x37::x38::x39::x40::x41::x42::.pointer (some ⟨b2,3,none⟩)::.slice (some ⟨xb,xo,none⟩) lx xc::.int .i64 (i:Int)::.pointer (some ⟨xb,xo+i * 3,none⟩)::.agg #[.slice ua0 ul0 uc0,.slice ua1 ul1 uc1,.slice ua2 ul2 uc2]::.pointer (some ⟨b3,3,none⟩)::.slice (some ⟨yb,yo,none⟩) ly yc::.int .i64 (i:Int)::.pointer (some ⟨yb,yo+i * 3,none⟩)::.agg #[.slice va0 vl0 vc0,.slice va1 vl1 vc1,.slice va2 vl2 vc2]::x53::x54::x55::x56::x57::x58::x59::x60::x61::x62::x63::x64::x65::x66::x67::x68::x69::x70::x71::x72::x73::x74::[]),[]⟩ W) :
  (Code.region 6 opsSame6.toArray true).wp Tryz.prog Q ⟨List.toArray (x0::x1::.pointer (some ⟨b2,0,none⟩)::.pointer (some ⟨b3,0,none⟩)::x4::.int .i64 (i:Int)::x6::x7::x8::x9::x10::x11::x12::x13::x14::x15::x16::x17::x18::x19::x20::x21::x22::x23::x24::x25::x26::x27::x28::x29::x30::x31::x32::x33::x34::x35::x36::x37::x38::x39::x40::x41::x42::x43::x44::x45::x46::x47::x48::x49::x50::x51::x52::x53::x54::x55::x56::x57::x58::x59::x60::x61::x62::x63::x64::x65::x66::x67::x68::x69::x70::x71::x72::x73::x74::[]),[]⟩ w:=by
 obtain ⟨fr,hfr⟩:∃ fr:Value→Value→Value→Value→Value→Value→Value→Value→Value→Value→Value→Value→Act,fr=fun y0 y1 y2 y3 y4 y5 y6 y7 y8 y9 y10 y11=>⟨List.toArray (x0::x1::.pointer (some ⟨b2,0,none⟩)::.pointer (some ⟨b3,0,none⟩)::x4::.int .i64 (i:Int)::y10::y11::x8::x9::x10::x11::x12::x13::x14::x15::x16::x17::x18::x19::x20::x21::x22::x23::x24::x25::x26::x27::x28::x29::x30::x31::x32::x33::x34::x35::x36::x37::x38::x39::x40::x41::x42::y0::y1::y2::y3::y4::y5::y6::y7::y8::y9::x53::x54::x55::x56::x57::x58::x59::x60::x61::x62::x63::x64::x65::x66::x67::x68::x69::x70::x71::x72::x73::x74::[]),[]⟩:=⟨_,rfl⟩
 obtain ⟨GG,hGG⟩:∃ GG:(Nat→Bool)→Value→Value→World→Prop,GG=fun D y10 y11 W=>Below w.heap.size w W∧(D 10=true→D 12=false→∃ b,y10 = .pointer (some ⟨b,0,none⟩)∧w.heap.size≤b∧W.heap[b]? = some (.cells #[.slice none 0 0,.slice none 0 0,.slice none 0 0] 128))∧(D 12=true→∃ b,y10 = .pointer (some ⟨b,0,none⟩)∧w.heap.size≤b∧W.heap[b]? = some (.cells #[.slice ua0 ul0 uc0,.slice ua1 ul1 uc1,.slice ua2 ul2 uc2] 128))∧(D 11=true→D 13=false→∃ b,y11 = .pointer (some ⟨b,0,none⟩)∧w.heap.size≤b∧W.heap[b]? = some (.cells #[.slice none 0 0,.slice none 0 0,.slice none 0 0] 128))∧(D 13=true→∃ b,y11 = .pointer (some ⟨b,0,none⟩)∧w.heap.size≤b∧W.heap[b]? = some (.cells #[.slice va0 vl0 vc0,.slice va1 vl1 vc1,.slice va2 vl2 vc2] 128))∧(D 10=true→D 11=true→y10 ≠ y11):=⟨_,rfl⟩
 have st0 {D:Nat→Bool} {y0 y1 y2 y3 y4 y5 y6 y7 y8 y9 y10 y11:Value} {W:World} {K:Act→World→Prop} (hD:D 0=false) (hcl:ClG opsSame6.toArray D) (hd:True) (hG:GG D y10 y11 W) (hK:∀ (v:Value) (W':World),(True)→GG (addG D 0) y10 y11 W'→(v = .pointer (some ⟨b2,3,none⟩))→K (fr v y1 y2 y3 y4 y5 y6 y7 y8 y9 y10 y11) W'):Oper.wp Tryz.prog oSame6_0 (fr y0 y1 y2 y3 y4 y5 y6 y7 y8 y9 y10 y11) W K Q:=by
  subst hfr hGG
  unfold oSame6_0
  obtain ⟨g1,g2,g3,g4,g5,g6⟩:=hG
  go_simp
  exact hK _ _ trivial ⟨g1,g2,g3,g4,g5,g6⟩ rfl
 have st1 {D:Nat→Bool} {y0 y1 y2 y3 y4 y5 y6 y7 y8 y9 y10 y11:Value} {W:World} {K:Act→World→Prop} (hD:D 1=false) (hcl:ClG opsSame6.toArray D) (hd:(D 0=true∧y0 = .pointer (some ⟨b2,3,none⟩))∧True) (hG:GG D y10 y11 W) (hK:∀ (v:Value) (W':World),(True)→GG (addG D 1) y10 y11 W'→(v = .slice (some ⟨xb,xo,none⟩) lx xc)→K (fr y0 v y2 y3 y4 y5 y6 y7 y8 y9 y10 y11) W'):Oper.wp Tryz.prog oSame6_1 (fr y0 y1 y2 y3 y4 y5 y6 y7 y8 y9 y10 y11) W K Q:=by
  subst hfr hGG
  unfold oSame6_1
  obtain ⟨⟨_,rfl⟩,-⟩:=hd
  obtain ⟨g1,g2,g3,g4,g5,g6⟩:=hG
  have c:=cell_kept g1 p2
  go_simp
  exact hK _ _ trivial ⟨g1,g2,g3,g4,g5,g6⟩ rfl
 have st2 {D:Nat→Bool} {y0 y1 y2 y3 y4 y5 y6 y7 y8 y9 y10 y11:Value} {W:World} {K:Act→World→Prop} (hD:D 2=false) (hcl:ClG opsSame6.toArray D) (hd:True) (hG:GG D y10 y11 W) (hK:∀ (v:Value) (W':World),(True)→GG (addG D 2) y10 y11 W'→(v = .int .i64 (i:Int))→K (fr y0 y1 v y3 y4 y5 y6 y7 y8 y9 y10 y11) W'):Oper.wp Tryz.prog oSame6_2 (fr y0 y1 y2 y3 y4 y5 y6 y7 y8 y9 y10 y11) W K Q:=by
  subst hfr hGG
  unfold oSame6_2
  obtain ⟨g1,g2,g3,g4,g5,g6⟩:=hG
  go_simp
  exact hK _ _ trivial ⟨g1,g2,g3,g4,g5,g6⟩ rfl
 have st3 {D:Nat→Bool} {y0 y1 y2 y3 y4 y5 y6 y7 y8 y9 y10 y11:Value} {W:World} {K:Act→World→Prop} (hD:D 3=false) (hcl:ClG opsSame6.toArray D) (hd:(D 1=true∧y1 = .slice (some ⟨xb,xo,none⟩) lx xc)∧(D 2=true∧y2 = .int .i64 (i:Int))∧True) (hG:GG D y10 y11 W) (hK:∀ (v:Value) (W':World),(True)→GG (addG D 3) y10 y11 W'→(v = .pointer (some ⟨xb,xo+i * 3,none⟩))→K (fr y0 y1 y2 v y4 y5 y6 y7 y8 y9 y10 y11) W'):Oper.wp Tryz.prog oSame6_3 (fr y0 y1 y2 y3 y4 y5 y6 y7 y8 y9 y10 y11) W K Q:=by
  subst hfr hGG
  unfold oSame6_3
  obtain ⟨⟨_,rfl⟩,⟨_,rfl⟩,-⟩:=hd
  obtain ⟨g1,g2,g3,g4,g5,g6⟩:=hG
  go_simp
  exact hK _ _ trivial ⟨g1,g2,g3,g4,g5,g6⟩ rfl
 have st4 {D:Nat→Bool} {y0 y1 y2 y3 y4 y5 y6 y7 y8 y9 y10 y11:Value} {W:World} {K:Act→World→Prop} (hD:D 4=false) (hcl:ClG opsSame6.toArray D) (hd:(D 3=true∧y3 = .pointer (some ⟨xb,xo+i * 3,none⟩))∧True) (hG:GG D y10 y11 W) (hK:∀ (v:Value) (W':World),(True)→GG (addG D 4) y10 y11 W'→(v = .agg #[.slice ua0 ul0 uc0,.slice ua1 ul1 uc1,.slice ua2 ul2 uc2])→K (fr y0 y1 y2 y3 v y5 y6 y7 y8 y9 y10 y11) W'):Oper.wp Tryz.prog oSame6_4 (fr y0 y1 y2 y3 y4 y5 y6 y7 y8 y9 y10 y11) W K Q:=by
  subst hfr hGG
  unfold oSame6_4
  obtain ⟨⟨_,rfl⟩,-⟩:=hd
  obtain ⟨g1,g2,g3,g4,g5,g6⟩:=hG
  have c0:=cell_kept g1 q0
  have c1:=cell_kept g1 q1
  have c2:=cell_kept g1 q2
  go_simp
  exact hK _ _ trivial ⟨g1,g2,g3,g4,g5,g6⟩ rfl
 have st5 {D:Nat→Bool} {y0 y1 y2 y3 y4 y5 y6 y7 y8 y9 y10 y11:Value} {W:World} {K:Act→World→Prop} (hD:D 5=false) (hcl:ClG opsSame6.toArray D) (hd:True) (hG:GG D y10 y11 W) (hK:∀ (v:Value) (W':World),(True)→GG (addG D 5) y10 y11 W'→(v = .pointer (some ⟨b3,3,none⟩))→K (fr y0 y1 y2 y3 y4 v y6 y7 y8 y9 y10 y11) W'):Oper.wp Tryz.prog oSame6_5 (fr y0 y1 y2 y3 y4 y5 y6 y7 y8 y9 y10 y11) W K Q:=by
  subst hfr hGG
  unfold oSame6_5
  obtain ⟨g1,g2,g3,g4,g5,g6⟩:=hG
  go_simp
  exact hK _ _ trivial ⟨g1,g2,g3,g4,g5,g6⟩ rfl
 have st6 {D:Nat→Bool} {y0 y1 y2 y3 y4 y5 y6 y7 y8 y9 y10 y11:Value} {W:World} {K:Act→World→Prop} (hD:D 6=false) (hcl:ClG opsSame6.toArray D) (hd:(D 5=true∧y5 = .pointer (some ⟨b3,3,none⟩))∧True) (hG:GG D y10 y11 W) (hK:∀ (v:Value) (W':World),(True)→GG (addG D 6) y10 y11 W'→(v = .slice (some ⟨yb,yo,none⟩) ly yc)→K (fr y0 y1 y2 y3 y4 y5 v y7 y8 y9 y10 y11) W'):Oper.wp Tryz.prog oSame6_6 (fr y0 y1 y2 y3 y4 y5 y6 y7 y8 y9 y10 y11) W K Q:=by
  subst hfr hGG
  unfold oSame6_6
  obtain ⟨⟨_,rfl⟩,-⟩:=hd
  obtain ⟨g1,g2,g3,g4,g5,g6⟩:=hG
  have c:=cell_kept g1 p3
  go_simp
  exact hK _ _ trivial ⟨g1,g2,g3,g4,g5,g6⟩ rfl
 have st7 {D:Nat→Bool} {y0 y1 y2 y3 y4 y5 y6 y7 y8 y9 y10 y11:Value} {W:World} {K:Act→World→Prop} (hD:D 7=false) (hcl:ClG opsSame6.toArray D) (hd:True) (hG:GG D y10 y11 W) (hK:∀ (v:Value) (W':World),(True)→GG (addG D 7) y10 y11 W'→(v = .int .i64 (i:Int))→K (fr y0 y1 y2 y3 y4 y5 y6 v y8 y9 y10 y11) W'):Oper.wp Tryz.prog oSame6_7 (fr y0 y1 y2 y3 y4 y5 y6 y7 y8 y9 y10 y11) W K Q:=by
  subst hfr hGG
  unfold oSame6_7
  obtain ⟨g1,g2,g3,g4,g5,g6⟩:=hG
  go_simp
  exact hK _ _ trivial ⟨g1,g2,g3,g4,g5,g6⟩ rfl
 have st8 {D:Nat→Bool} {y0 y1 y2 y3 y4 y5 y6 y7 y8 y9 y10 y11:Value} {W:World} {K:Act→World→Prop} (hD:D 8=false) (hcl:ClG opsSame6.toArray D) (hd:(D 6=true∧y6 = .slice (some ⟨yb,yo,none⟩) ly yc)∧(D 7=true∧y7 = .int .i64 (i:Int))∧True) (hG:GG D y10 y11 W) (hK:∀ (v:Value) (W':World),(True)→GG (addG D 8) y10 y11 W'→(v = .pointer (some ⟨yb,yo+i * 3,none⟩))→K (fr y0 y1 y2 y3 y4 y5 y6 y7 v y9 y10 y11) W'):Oper.wp Tryz.prog oSame6_8 (fr y0 y1 y2 y3 y4 y5 y6 y7 y8 y9 y10 y11) W K Q:=by
  subst hfr hGG
  unfold oSame6_8
  obtain ⟨⟨_,rfl⟩,⟨_,rfl⟩,-⟩:=hd
  obtain ⟨g1,g2,g3,g4,g5,g6⟩:=hG
  go_simp
  exact hK _ _ trivial ⟨g1,g2,g3,g4,g5,g6⟩ rfl
 have st9 {D:Nat→Bool} {y0 y1 y2 y3 y4 y5 y6 y7 y8 y9 y10 y11:Value} {W:World} {K:Act→World→Prop} (hD:D 9=false) (hcl:ClG opsSame6.toArray D) (hd:(D 8=true∧y8 = .pointer (some ⟨yb,yo+i * 3,none⟩))∧True) (hG:GG D y10 y11 W) (hK:∀ (v:Value) (W':World),(True)→GG (addG D 9) y10 y11 W'→(v = .agg #[.slice va0 vl0 vc0,.slice va1 vl1 vc1,.slice va2 vl2 vc2])→K (fr y0 y1 y2 y3 y4 y5 y6 y7 y8 v y10 y11) W'):Oper.wp Tryz.prog oSame6_9 (fr y0 y1 y2 y3 y4 y5 y6 y7 y8 y9 y10 y11) W K Q:=by
  subst hfr hGG
  unfold oSame6_9
  obtain ⟨⟨_,rfl⟩,-⟩:=hd
  obtain ⟨g1,g2,g3,g4,g5,g6⟩:=hG
  have c0:=cell_kept g1 r0
  have c1:=cell_kept g1 r1
  have c2:=cell_kept g1 r2
  go_simp
  exact hK _ _ trivial ⟨g1,g2,g3,g4,g5,g6⟩ rfl
 have st10 {D:Nat→Bool} {y0 y1 y2 y3 y4 y5 y6 y7 y8 y9 y10 y11:Value} {W:World} {K:Act→World→Prop} (hD:D 10=false) (hcl:ClG opsSame6.toArray D) (hd:True) (hG:GG D y10 y11 W) (hK:∀ (v:Value) (W':World),(True)→GG (addG D 10) v y11 W'→(∃ b,v = .pointer (some ⟨b,0,none⟩)∧w.heap.size≤b)→K (fr y0 y1 y2 y3 y4 y5 y6 y7 y8 y9 v y11) W'):Oper.wp Tryz.prog oSame6_10 (fr y0 y1 y2 y3 y4 y5 y6 y7 y8 y9 y10 y11) W K Q:=by
  subst hfr hGG
  unfold oSame6_10
  obtain ⟨g1,g2,g3,g4,g5,g6⟩:=hG
  have hba:=(Below.refl W.heap.size W).alloc (Nat.le_refl _) (.cells #[.slice none 0 0,.slice none 0 0,.slice none 0 0] 128)
  have hb9:=g1.alloc g1.size (.cells #[.slice none 0 0,.slice none 0 0,.slice none 0 0] 128)
  go_simp
  refine hK _ _ trivial ⟨hb9,fun _ _=>⟨_,rfl,g1.size,heap_alloc_new _ _⟩,(fun h=>by have:=hcl 12 _ h rfl 10 (by decide); rw [hD] at this; cases this),(fun h1 h2=>by obtain ⟨b,z1,z2,z3⟩:=g4 h1 h2; exact ⟨b,z1,z2,(hba.block b (Array.getElem?_eq_some_iff.1 z3).1).trans z3⟩),(fun h=>by obtain ⟨b,z1,z2,z3⟩:=g5 h; exact ⟨b,z1,z2,(hba.block b (Array.getElem?_eq_some_iff.1 z3).1).trans z3⟩),?_⟩ ⟨_,rfl,g1.size⟩
  exact (fun h1 h2=>by
   have hx:∃ b,y11 = .pointer (some ⟨b,0,none⟩)∧b < W.heap.size:=by
    cases hd9:D 13 with
    | false=>obtain ⟨b,z1,_,z3⟩:=g4 h2 hd9; exact ⟨b,z1,(Array.getElem?_eq_some_iff.1 z3).1⟩
    | true=>obtain ⟨b,z1,_,z3⟩:=g5 hd9; exact ⟨b,z1,(Array.getElem?_eq_some_iff.1 z3).1⟩
   obtain ⟨b,rfl,hlt⟩:=hx
   intro e
   injection e with e
   injection e with e
   injection e with e
   omega)
 have st11 {D:Nat→Bool} {y0 y1 y2 y3 y4 y5 y6 y7 y8 y9 y10 y11:Value} {W:World} {K:Act→World→Prop} (hD:D 11=false) (hcl:ClG opsSame6.toArray D) (hd:True) (hG:GG D y10 y11 W) (hK:∀ (v:Value) (W':World),(True)→GG (addG D 11) y10 v W'→(∃ b,v = .pointer (some ⟨b,0,none⟩)∧w.heap.size≤b)→K (fr y0 y1 y2 y3 y4 y5 y6 y7 y8 y9 y10 v) W'):Oper.wp Tryz.prog oSame6_11 (fr y0 y1 y2 y3 y4 y5 y6 y7 y8 y9 y10 y11) W K Q:=by
  subst hfr hGG
  unfold oSame6_11
  obtain ⟨g1,g2,g3,g4,g5,g6⟩:=hG
  have hba:=(Below.refl W.heap.size W).alloc (Nat.le_refl _) (.cells #[.slice none 0 0,.slice none 0 0,.slice none 0 0] 128)
  have hb9:=g1.alloc g1.size (.cells #[.slice none 0 0,.slice none 0 0,.slice none 0 0] 128)
  go_simp
  refine hK _ _ trivial ⟨hb9,(fun h1 h2=>by obtain ⟨b,z1,z2,z3⟩:=g2 h1 h2; exact ⟨b,z1,z2,(hba.block b (Array.getElem?_eq_some_iff.1 z3).1).trans z3⟩),(fun h=>by obtain ⟨b,z1,z2,z3⟩:=g3 h; exact ⟨b,z1,z2,(hba.block b (Array.getElem?_eq_some_iff.1 z3).1).trans z3⟩),fun _ _=>⟨_,rfl,g1.size,heap_alloc_new _ _⟩,(fun h=>by have:=hcl 13 _ h rfl 11 (by decide); rw [hD] at this; cases this),?_⟩ ⟨_,rfl,g1.size⟩
  exact (fun h1 h2=>by
   have hx:∃ b,y10 = .pointer (some ⟨b,0,none⟩)∧b < W.heap.size:=by
    cases hd9:D 12 with
    | false=>obtain ⟨b,z1,_,z3⟩:=g2 h1 hd9; exact ⟨b,z1,(Array.getElem?_eq_some_iff.1 z3).1⟩
    | true=>obtain ⟨b,z1,_,z3⟩:=g3 hd9; exact ⟨b,z1,(Array.getElem?_eq_some_iff.1 z3).1⟩
   obtain ⟨b,rfl,hlt⟩:=hx
   intro e
   injection e with e
   injection e with e
   injection e with e
   omega)
 have st12 {D:Nat→Bool} {y0 y1 y2 y3 y4 y5 y6 y7 y8 y9 y10 y11:Value} {W:World} {K:Act→World→Prop} (hD:D 12=false) (hcl:ClG opsSame6.toArray D) (hd:(D 10=true∧∃ b,y10 = .pointer (some ⟨b,0,none⟩)∧w.heap.size≤b)∧(D 4=true∧y4 = .agg #[.slice ua0 ul0 uc0,.slice ua1 ul1 uc1,.slice ua2 ul2 uc2])∧True) (hG:GG D y10 y11 W) (hK:∀ (v:Value) (W':World),(True)→GG (addG D 12) y10 y11 W'→(True)→K (fr y0 y1 y2 y3 y4 y5 y6 y7 y8 y9 y10 y11) W'):Oper.wp Tryz.prog oSame6_12 (fr y0 y1 y2 y3 y4 y5 y6 y7 y8 y9 y10 y11) W K Q:=by
  subst hfr hGG
  unfold oSame6_12
  obtain ⟨⟨d10,e10⟩,⟨_,rfl⟩,-⟩:=hd
  obtain ⟨g1,g2,g3,g4,g5,g6⟩:=hG
  obtain ⟨b,rfl,hbs,hbk⟩:=g2 d10 hD
  obtain ⟨n0,n1,n2⟩:=boxL3 hbk
  obtain ⟨f0,f1,f2⟩:=freeL3 hbk
  go_simp
  refine storeEnd3 (u0:=.slice ua0 ul0 uc0) (u1:=.slice ua1 ul1 uc1) (u2:=.slice ua2 ul2 uc2) hbk ?_
  intro W9 hW9 hb9 _ hk9 _ _ _
  have hoth:∀ b9,b9 ≠ b→W9.heap[b9]? = W.heap[b9]?:=fun b9 hne=>by rw [hW9,Below.heap_setCell _ ⟨b,2,none⟩ _ b9 hne,Below.heap_setCell _ ⟨b,1,none⟩ _ b9 hne,Below.heap_setCell _ ⟨b,0,none⟩ _ b9 hne]
  rw [← hW9]
  exact hK undef W9 trivial ⟨hb9 _ _ hbs g1,(fun _ h=>absurd (show (true:Bool)=false from h) (by decide)),(fun _=>⟨b,rfl,hbs,hk9⟩),(fun h1 h2=>by obtain ⟨b9,z1,z2,z3⟩:=g4 h1 h2; refine ⟨b9,z1,z2,(hoth b9 ?_).trans z3⟩; rintro rfl; exact g6 d10 h1 z1.symm),(fun h=>by obtain ⟨b9,z1,z2,z3⟩:=g5 h; refine ⟨b9,z1,z2,(hoth b9 ?_).trans z3⟩; rintro rfl; exact g6 d10 (hcl 13 _ h rfl 11 (by decide)) z1.symm),g6⟩ trivial
 have st13 {D:Nat→Bool} {y0 y1 y2 y3 y4 y5 y6 y7 y8 y9 y10 y11:Value} {W:World} {K:Act→World→Prop} (hD:D 13=false) (hcl:ClG opsSame6.toArray D) (hd:(D 11=true∧∃ b,y11 = .pointer (some ⟨b,0,none⟩)∧w.heap.size≤b)∧(D 9=true∧y9 = .agg #[.slice va0 vl0 vc0,.slice va1 vl1 vc1,.slice va2 vl2 vc2])∧True) (hG:GG D y10 y11 W) (hK:∀ (v:Value) (W':World),(True)→GG (addG D 13) y10 y11 W'→(True)→K (fr y0 y1 y2 y3 y4 y5 y6 y7 y8 y9 y10 y11) W'):Oper.wp Tryz.prog oSame6_13 (fr y0 y1 y2 y3 y4 y5 y6 y7 y8 y9 y10 y11) W K Q:=by
  subst hfr hGG
  unfold oSame6_13
  obtain ⟨⟨d11,e11⟩,⟨_,rfl⟩,-⟩:=hd
  obtain ⟨g1,g2,g3,g4,g5,g6⟩:=hG
  obtain ⟨b,rfl,hbs,hbk⟩:=g4 d11 hD
  obtain ⟨n0,n1,n2⟩:=boxL3 hbk
  obtain ⟨f0,f1,f2⟩:=freeL3 hbk
  go_simp
  refine storeEnd3 (u0:=.slice va0 vl0 vc0) (u1:=.slice va1 vl1 vc1) (u2:=.slice va2 vl2 vc2) hbk ?_
  intro W9 hW9 hb9 _ hk9 _ _ _
  have hoth:∀ b9,b9 ≠ b→W9.heap[b9]? = W.heap[b9]?:=fun b9 hne=>by rw [hW9,Below.heap_setCell _ ⟨b,2,none⟩ _ b9 hne,Below.heap_setCell _ ⟨b,1,none⟩ _ b9 hne,Below.heap_setCell _ ⟨b,0,none⟩ _ b9 hne]
  rw [← hW9]
  exact hK undef W9 trivial ⟨hb9 _ _ hbs g1,(fun h1 h2=>by obtain ⟨b9,z1,z2,z3⟩:=g2 h1 h2; refine ⟨b9,z1,z2,(hoth b9 ?_).trans z3⟩; rintro rfl; exact g6 h1 d11 z1),(fun h=>by obtain ⟨b9,z1,z2,z3⟩:=g3 h; refine ⟨b9,z1,z2,(hoth b9 ?_).trans z3⟩; rintro rfl; exact g6 (hcl 12 _ h rfl 10 (by decide)) d11 z1),(fun _ h=>absurd (show (true:Bool)=false from h) (by decide)),(fun _=>⟨b,rfl,hbs,hk9⟩),g6⟩ trivial
 subst hfr hGG
 refine wp_region_rg (l:=opsSame6) (fun ys=>⟨List.toArray (x0::x1::.pointer (some ⟨b2,0,none⟩)::.pointer (some ⟨b3,0,none⟩)::x4::.int .i64 (i:Int)::ys 10::ys 11::x8::x9::x10::x11::x12::x13::x14::x15::x16::x17::x18::x19::x20::x21::x22::x23::x24::x25::x26::x27::x28::x29::x30::x31::x32::x33::x34::x35::x36::x37::x38::x39::x40::x41::x42::ys 0::ys 1::ys 2::ys 3::ys 4::ys 5::ys 6::ys 7::ys 8::ys 9::x53::x54::x55::x56::x57::x58::x59::x60::x61::x62::x63::x64::x65::x66::x67::x68::x69::x70::x71::x72::x73::x74::[]),[]⟩) [fun (_:World) (v:Value)=>v = .pointer (some ⟨b2,3,none⟩),fun (_:World) (v:Value)=>v = .slice (some ⟨xb,xo,none⟩) lx xc,fun (_:World) (v:Value)=>v = .int .i64 (i:Int),fun (_:World) (v:Value)=>v = .pointer (some ⟨xb,xo+i * 3,none⟩),fun (_:World) (v:Value)=>v = .agg #[.slice ua0 ul0 uc0,.slice ua1 ul1 uc1,.slice ua2 ul2 uc2],fun (_:World) (v:Value)=>v = .pointer (some ⟨b3,3,none⟩),fun (_:World) (v:Value)=>v = .slice (some ⟨yb,yo,none⟩) ly yc,fun (_:World) (v:Value)=>v = .int .i64 (i:Int),fun (_:World) (v:Value)=>v = .pointer (some ⟨yb,yo+i * 3,none⟩),fun (_:World) (v:Value)=>v = .agg #[.slice va0 vl0 vc0,.slice va1 vl1 vc1,.slice va2 vl2 vc2],fun (_:World) (v:Value)=>∃ b,v = .pointer (some ⟨b,0,none⟩)∧w.heap.size≤b,fun (_:World) (v:Value)=>∃ b,v = .pointer (some ⟨b,0,none⟩)∧w.heap.size≤b,fun (_:World) (_:Value)=>True,fun (_:World) (_:Value)=>True] (fun W W'=>True) (fun D ys W=>Below w.heap.size w W∧(D 10=true→D 12=false→∃ b,(ys 10) = .pointer (some ⟨b,0,none⟩)∧w.heap.size≤b∧W.heap[b]? = some (.cells #[.slice none 0 0,.slice none 0 0,.slice none 0 0] 128))∧(D 12=true→∃ b,(ys 10) = .pointer (some ⟨b,0,none⟩)∧w.heap.size≤b∧W.heap[b]? = some (.cells #[.slice ua0 ul0 uc0,.slice ua1 ul1 uc1,.slice ua2 ul2 uc2] 128))∧(D 11=true→D 13=false→∃ b,(ys 11) = .pointer (some ⟨b,0,none⟩)∧w.heap.size≤b∧W.heap[b]? = some (.cells #[.slice none 0 0,.slice none 0 0,.slice none 0 0] 128))∧(D 13=true→∃ b,(ys 11) = .pointer (some ⟨b,0,none⟩)∧w.heap.size≤b∧W.heap[b]? = some (.cells #[.slice va0 vl0 vc0,.slice va1 vl1 vc1,.slice va2 vl2 vc2] 128))∧(D 10=true→D 11=true→(ys 10) ≠ (ys 11))) (fun i=>([x43,x44,x45,x46,x47,x48,x49,x50,x51,x52,x6,x7,undef,undef]:List Value).getD i undef) (by kernel_rfl) (by kernel_rfl) ⟨fun _ _ _ h _=>h,fun _ _ _ h _=>h,fun _ _ _ h _=>h,fun _ _ _ h _=>h,fun _ _ _ h _=>h,fun _ _ _ h _=>h,fun _ _ _ h _=>h,fun _ _ _ h _=>h,fun _ _ _ h _=>h,fun _ _ _ h _=>h,fun _ _ _ h _=>h,fun _ _ _ h _=>h,fun _ _ _ h _=>h,fun _ _ _ h _=>h,trivial⟩ ?g0 ?gx ⟨fun D ys W K h1 h2 h3 h4 h5=>by rw [if_pos (by rfl)]; exact st0 h1 h2 trivial h4 h5,fun D ys W K h1 h2 h3 h4 h5=>by rw [if_pos (by rfl)]; exact st1 h1 h2 h3 h4 h5,fun D ys W K h1 h2 h3 h4 h5=>by rw [if_pos (by rfl)]; exact st2 h1 h2 trivial h4 h5,fun D ys W K h1 h2 h3 h4 h5=>by rw [if_pos (by rfl)]; exact st3 h1 h2 h3 h4 h5,fun D ys W K h1 h2 h3 h4 h5=>by rw [if_pos (by rfl)]; exact st4 h1 h2 h3 h4 h5,fun D ys W K h1 h2 h3 h4 h5=>by rw [if_pos (by rfl)]; exact st5 h1 h2 trivial h4 h5,fun D ys W K h1 h2 h3 h4 h5=>by rw [if_pos (by rfl)]; exact st6 h1 h2 h3 h4 h5,fun D ys W K h1 h2 h3 h4 h5=>by rw [if_pos (by rfl)]; exact st7 h1 h2 trivial h4 h5,fun D ys W K h1 h2 h3 h4 h5=>by rw [if_pos (by rfl)]; exact st8 h1 h2 h3 h4 h5,fun D ys W K h1 h2 h3 h4 h5=>by rw [if_pos (by rfl)]; exact st9 h1 h2 h3 h4 h5,fun D ys W K h1 h2 h3 h4 h5=>by rw [if_pos (by rfl)]; exact st10 h1 h2 trivial h4 h5,fun D ys W K h1 h2 h3 h4 h5=>by rw [if_pos (by rfl)]; exact st11 h1 h2 trivial h4 h5,fun D ys W K h1 h2 h3 h4 h5=>by rw [if_pos (by rfl)]; exact st12 h1 h2 ⟨h3.1,h3.2.1,trivial⟩ h4 h5,fun D ys W K h1 h2 h3 h4 h5=>by rw [if_pos (by rfl)]; exact st13 h1 h2 ⟨h3.1,h3.2.1,trivial⟩ h4 h5,trivial⟩ ?fin
 case g0=>exact ⟨below_drewN (Below.refl w.heap.size w) 1,(fun h=>by cases h),(fun h=>by cases h),(fun h=>by cases h),(fun h=>by cases h),(fun h=>by cases h)⟩
 case gx=>exact fun D D' ys W h ⟨h1,h2,h3,h4,h5,h6⟩=>⟨h1,fun q q'=>h2 ((h 10 (by decide)).trans q) ((h 12 (by decide)).trans q'),fun q=>h3 ((h 12 (by decide)).trans q),fun q q'=>h4 ((h 11 (by decide)).trans q) ((h 13 (by decide)).trans q'),fun q=>h5 ((h 13 (by decide)).trans q),fun q q'=>h6 ((h 10 (by decide)).trans q) ((h 11 (by decide)).trans q')⟩
 case fin=>
  intro ys W hG hp
  have e0:ys 0 = .pointer (some ⟨b2,3,none⟩):=hp 0 (by decide)
  have e1:ys 1 = .slice (some ⟨xb,xo,none⟩) lx xc:=hp 1 (by decide)
  have e2:ys 2 = .int .i64 (i:Int):=hp 2 (by decide)
  have e3:ys 3 = .pointer (some ⟨xb,xo+i * 3,none⟩):=hp 3 (by decide)
  have e4:ys 4 = .agg #[.slice ua0 ul0 uc0,.slice ua1 ul1 uc1,.slice ua2 ul2 uc2]:=hp 4 (by decide)
  have e5:ys 5 = .pointer (some ⟨b3,3,none⟩):=hp 5 (by decide)
  have e6:ys 6 = .slice (some ⟨yb,yo,none⟩) ly yc:=hp 6 (by decide)
  have e7:ys 7 = .int .i64 (i:Int):=hp 7 (by decide)
  have e8:ys 8 = .pointer (some ⟨yb,yo+i * 3,none⟩):=hp 8 (by decide)
  have e9:ys 9 = .agg #[.slice va0 vl0 vc0,.slice va1 vl1 vc1,.slice va2 vl2 vc2]:=hp 9 (by decide)
  show Q .normal ⟨List.toArray (x0::x1::.pointer (some ⟨b2,0,none⟩)::.pointer (some ⟨b3,0,none⟩)::x4::.int .i64 (i:Int)::(ys 10)::(ys 11)::x8::x9::x10::x11::x12::x13::x14::x15::x16::x17::x18::x19::x20::x21::x22::x23::x24::x25::x26::x27::x28::x29::x30::x31::x32::x33::x34::x35::x36::x37::x38::x39::x40::x41::x42::(ys 0)::(ys 1)::(ys 2)::(ys 3)::(ys 4)::(ys 5)::(ys 6)::(ys 7)::(ys 8)::(ys 9)::x53::x54::x55::x56::x57::x58::x59::x60::x61::x62::x63::x64::x65::x66::x67::x68::x69::x70::x71::x72::x73::x74::[]),[]⟩ W
  rw [e0,e1,e2,e3,e4,e5,e6,e7,e8,e9]
  exact hfin (ys 10) (ys 11) (ys 12) (ys 13) W hG (hp 10 (by decide)) (hp 11 (by decide)) (hp 12 (by decide)) (hp 13 (by decide))
end Go.Proofs.YtmikofeildnpdaaGreat

/- The reference on vectors: Order, Has, vector. -/
namespace Go.Proofs.YtmikofeildnpdaaGreat
open Go.RowKit
theorem refOrderC {w:World} {u v:Value} {xs ys:List Int} (hx:Ints w u xs) (hy:Ints w v ys) :
  Calls Tryz.prog 83 #[u,v] w fun e w'=>e = .returned (.int .i64 (cmpL xs ys))∧Qt w w':=by
 obtain ⟨xa,xc,xb,xo,rfl,hxa,hxc,hxl⟩:=hx
 obtain ⟨ya,yc,yb,yo,rfl,hya,hyc,hyl⟩:=hy
 obtain ⟨E,hE⟩:=exE (cmpL xs ys)
 rw [hE]
 have h0:Hid (cmpL (xs.drop 0) (ys.drop 0)=E):=hE
 replace hxc:=Lib.hid hxc
 replace hyc:=Lib.hid hyc
 clear hE
 go_enter Tryz.func83, Tryz.ntmps83
 go_wp2_with fail
 go_loopw [5] (fun iv wr=>∃ i:Nat,iv = .int .i64 i∧i≤xs.length∧i≤ys.length∧Hid (cmpL (xs.drop i) (ys.drop i)=E)∧Qt w wr) (fun iv _=>xs.length - (intOf iv).toNat)
 case atStart=>exact ⟨0,rfl,by omega,by omega,h0,Qt.refl w⟩
 case round=>
  clear h0
  obtain ⟨i,rfl,hi,hj,ht,n,rfl⟩:=hrel
  by_cases hlt:i < xs.length
  ·obtain rfl:=hxa (by omega)
   have hxi:=hxc.out i hlt
   obtain ⟨x,hx⟩:=exE (xs.getD i 0)
   rw [hx] at hxi
   by_cases hlu:i < ys.length
   ·obtain rfl:=hya (by omega)
    have hyi:=hyc.out i hlu
    obtain ⟨y,hy⟩:=exE (ys.getD i 0)
    rw [hy] at hyi
    have ht2:=ht.out
    rw [drop_cons0 hlt hx,drop_cons0 hlu hy] at ht2
    clear hx hy ht
    by_cases l1:x < y
    ·have d1:decide (x < y)=true:=decide_eq_true l1
     rw [cmpL_ne (by rw [cmpI_lt l1]; decide),cmpI_lt l1] at ht2
     replace ht2:=Lib.hid ht2
     clear l1
     go_wp2_with fail
     go_quiet (fail)
     go_wp2_with fail
     go_ret
     exact ⟨ret_int ht2.out,by first | exact (Qt.mk' w n).step nq | exact Qt.mk' w _ | exact ⟨_,by rw [World.drewN_drewN,World.drewN_drewN]⟩⟩
    ·have d1:decide (x < y)=false:=decide_eq_false l1
     by_cases l2:y < x
     ·have d2:decide (y < x)=true:=decide_eq_true l2
      rw [cmpL_ne (by rw [cmpI_gt l2]; decide),cmpI_gt l2] at ht2
      replace ht2:=Lib.hid ht2
      clear l1 l2
      go_wp2_with fail
      go_quiet (fail)
      go_wp2_with fail
      go_quiet (fail)
      go_wp2_with fail
      go_ret
      exact ⟨ret_int ht2.out,by first | exact (Qt.mk' w n).step nq | exact Qt.mk' w _ | exact ⟨_,by rw [World.drewN_drewN,World.drewN_drewN]⟩⟩
     ·have d2:decide (y < x)=false:=decide_eq_false l2
      rw [cmpL_hd (cmpI_zero.2 (show x=y by omega))] at ht2
      replace ht2:=Lib.hid ht2
      clear l1 l2
      go_wp2_with fail
      go_quiet (fail)
      go_wp2_with fail
      go_quiet (fail)
      go_wp2_with fail
      go_roundw
      case rel=>exact ⟨i+1,by go_num,hlt,hlu,ht2,by first | exact (Qt.mk' w n).step nq | exact Qt.mk' w _ | exact ⟨_,by rw [World.drewN_drewN,World.drewN_drewN]⟩⟩
      case measure=>simp [intOf]; omega
   ·have hE:Hid ((1:Int)=E):=by
     have:=ht.out
     rw [drop_cons0 hlt hx,dropEnd (xs:=ys) (by omega)] at this
     exact this
    have n3 : ¬ xs.length < ys.length:=by omega
    have n4:ys.length < xs.length:=by omega
    clear ht hx
    go_wp2_with fail
    go_ret
    exact ⟨ret_int hE.out,Qt.mk' w n⟩
  ·by_cases hlu:xs.length < ys.length
   ·have hE:Hid ((-1:Int)=E):=by
     have:=ht.out
     rw [dropEnd (xs:=xs) (by omega),drop_cons0 (xs:=ys) (x:=ys.getD i 0) (by omega) rfl] at this
     exact this
    clear ht
    go_wp2_with fail
    go_ret
    exact ⟨ret_int hE.out,Qt.mk' w n⟩
   ·have hE:Hid ((0:Int)=E):=by
     have:=ht.out
     rw [dropEnd (xs:=xs) (by omega),dropEnd (xs:=ys) (by omega)] at this
     exact this
    have n4 : ¬ ys.length < xs.length:=by omega
    clear ht
    go_wp2_with fail
    go_ret
    exact ⟨ret_int hE.out,Qt.mk' w n⟩
theorem refHasC {w:World} {u v:Value} {l:List (List Int)} {x:List Int} (hx:Intss w u l) (hv:Ints w v x) :
  Calls Tryz.prog 175 #[u,v] w fun e w'=>e = .returned (.bool (decide (x∈l)))∧Below w.heap.size w w':=by
 obtain ⟨xa,xc,xb,xo,rfl,hxa,hxc,hxl⟩:=hx
 replace hxc:=Lib.hid hxc
 have h0:Hid (x ∉ l.take 0):=by show ¬ _; simp
 have hvh:=Lib.hid hv
 obtain ⟨va,vc,hvv⟩:=hv.shape
 subst hvv
 clear hv
 go_enter Tryz.func175, Tryz.ntmps175
 go_wp2_with fail
 go_loopw [5] (fun iv wr=>∃ i:Nat,iv = .int .i64 i∧i≤l.length∧Hid (x ∉ l.take i)∧Below w.heap.size w wr) (fun iv _=>l.length - (intOf iv).toNat)
 case atStart=>exact ⟨0,rfl,by omega,h0,Below.refl _ _⟩
 case round=>
  clear h0
  obtain ⟨i,rfl,hi,hno,hbr⟩:=hrel
  by_cases hlt:i < l.length
  ·obtain rfl:=hxa (by omega)
   obtain ⟨xu,hxi,hxk⟩:=hxc.out i hlt
   obtain ⟨y,hy⟩:=exE (l.getD i [])
   rw [hy] at hxk
   have c0:=cell_kept hbr hxi
   have HC:=refOrderC (hxk.keep hbr) (hvh.out.keep hbr)
   have hmem:y∈l:=by rw [← hy,getD_eq hlt]; exact List.getElem_mem hlt
   have htk:l.take (i+1)=l.take i ++ [y]:=by rw [take_snoc hlt [],hy]
   obtain ⟨xsa,xsc,hxs⟩:=hxk.shape
   subst hxs
   clear hxk hy hxi
   by_cases he:y=x
   ·rw [cmpL_zero.2 he] at HC
    replace HC:=Lib.hid HC
    have hres:Hid (decide (x∈l)=true):=by show _=_; rw [← he]; exact decide_eq_true hmem
    clear htk hmem he hno
    go_wp2_with fail
    refine HC.out.mono ?_
    rintro e w' ⟨rfl,hq⟩
    have hbn:=btt hbr hq.below
    clear hq
    go_wp2
    go_ret
    exact ⟨by rw [hres.out]; rfl,hbn⟩
   ·obtain ⟨z,hz⟩:=exE (cmpL y x)
    have hz1:(z == 0)=false:=by
     rw [beq_eq_false_iff_ne,← hz]; exact fun h=>he (cmpL_zero.1 h)
    rw [hz] at HC
    replace HC:=Lib.hid HC
    have hnx:Hid (x ∉ l.take (i+1)):=by
     show ¬ _
     rw [htk,List.mem_append,List.mem_singleton]
     exact fun h=>h.elim hno.out fun h=>he h.symm
    clear htk hmem he hno hz
    go_wp2_with fail
    refine HC.out.mono ?_
    rintro e w' ⟨rfl,hq⟩
    have hbn:=btt hbr hq.below
    clear hq
    go_wp2
    go_roundw
    case rel=>exact ⟨i+1,by go_num,hlt,hnx,hbn⟩
    case measure=>simp [intOf]; omega
  ·have hres:Hid (decide (x∈l)=false):=by
    show _=_
    have:=hno.out
    rw [List.take_of_length_le (by omega)] at this
    exact decide_eq_false this
   clear hno
   go_wp2
   go_ret
   exact ⟨by rw [hres.out]; rfl,hbr⟩
theorem refVectorC {w:World} {u:Value} {xs:List Int} {n most:Int} (hx:Ints w u xs) :
  Calls Tryz.prog 174 #[u,.int .i64 n,.int .i64 most] w fun e w'=>e = .returned (.int .i64 (vecE xs n most))∧w'=w:=by
 obtain ⟨xa,xc,xb,xo,rfl,hxa,hxc,hxl⟩:=hx
 rw [vecE_eq]
 by_cases hn:(xs.length:Int)=n
 ·rw [if_neg (fun h=>h hn)]
  subst hn
  obtain ⟨A,hA⟩:=exE (xs.any (outR most))
  rw [hA]
  have h0:Hid ((xs.drop 0).any (outR most)=A):=hA
  replace hxc:=Lib.hid hxc
  clear hA
  go_enter Tryz.func174, Tryz.ntmps174
  go_wp2_with fail
  go_loopw [7] (fun iv wr=>∃ i:Nat,iv = .int .i64 i∧i≤xs.length∧Hid ((xs.drop i).any (outR most)=A)∧wr=w) (fun iv _=>xs.length - (intOf iv).toNat)
  case atStart=>exact ⟨0,rfl,by omega,h0,rfl⟩
  case round=>
   clear h0
   obtain ⟨i,rfl,hi,ht,rfl⟩:=hrel
   by_cases hlt:i < xs.length
   ·obtain rfl:=hxa (by omega)
    have hxi:=hxc.out i hlt
    obtain ⟨x,hx⟩:=exE (xs.getD i 0)
    rw [hx] at hxi
    have ht2:=ht.out
    rw [drop_cons0 hlt hx,List.any_cons] at ht2
    clear hx ht
    by_cases l1:x < 0
    ·rw [show outR most x=true from decide_eq_true (.inl l1),Bool.true_or] at ht2
     subst ht2
     have d1:decide (x < 0)=true:=decide_eq_true l1
     clear l1
     go_wp2_with fail
     go_ret
     exact ⟨rfl,rfl⟩
    ·have d1:decide (x < 0)=false:=decide_eq_false l1
     by_cases l2:most≤x
     ·rw [show outR most x=true from decide_eq_true (.inr l2),Bool.true_or] at ht2
      subst ht2
      have d2:decide (most≤x)=true:=decide_eq_true l2
      clear l1 l2
      go_wp2_with fail
      go_ret
      exact ⟨rfl,rfl⟩
     ·rw [show outR most x=false from decide_eq_false (fun h=>h.elim l1 l2),Bool.false_or] at ht2
      replace ht2:=Lib.hid ht2
      have d2:decide (most≤x)=false:=decide_eq_false l2
      clear l1 l2
      go_wp2_with fail
      go_roundw
      case rel=>exact ⟨i+1,by go_num,hlt,ht2,by first | rfl | trivial⟩
      case measure=>simp [intOf]; omega
   ·have hE:false=A:=by
     have:=ht.out
     rw [dropEnd (xs:=xs) (by omega)] at this
     exact this
    clear ht
    subst hE
    go_wp2_with fail
    go_ret
    exact ⟨rfl,rfl⟩
 ·rw [if_pos hn]
  have d1:((xs.length:Int) != n)=true:=by simpa using hn
  clear hn hxc
  go_enter Tryz.func174, Tryz.ntmps174
  go_wp2
  go_ret
  exact ⟨rfl,rfl⟩
end Go.Proofs.YtmikofeildnpdaaGreat
