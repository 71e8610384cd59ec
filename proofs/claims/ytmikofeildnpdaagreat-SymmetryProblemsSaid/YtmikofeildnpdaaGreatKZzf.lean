/- Texts of this claim, put together: ZW ZX. -/
import Derived.Test.YtmikofeildnpdaaGreatKZzd

set_option maxRecDepth 100000
set_option maxHeartbeats 12800000
namespace Go.Proofs.YtmikofeildnpdaaGreat
open Go.RowKit
def oAw9_0:Oper:=⟨some 67,.move (.tmp 4),28,"law.go:45",#[],none⟩
def oAw9_1:Oper:=⟨some 68,.move (.tmp 6),28,"law.go:45",#[],none⟩
def oAw9_2:Oper:=⟨some 69,.binOp .add 28 (.tmp 67) (.tmp 68) 28,28,"law.go:45",#[⟨0,.data⟩,⟨1,.data⟩],none⟩
def oAw9_3:Oper:=⟨some 70,.move (.tmp 8),28,"law.go:45",#[],none⟩
def oAw9_4:Oper:=⟨some 71,.binOp .add 28 (.tmp 69) (.tmp 70) 28,28,"law.go:45",#[⟨2,.data⟩,⟨3,.data⟩],none⟩
def oAw9_5:Oper:=⟨some 72,.move (.tmp 10),28,"law.go:45",#[],none⟩
def oAw9_6:Oper:=⟨some 73,.binOp .add 28 (.tmp 71) (.tmp 72) 28,28,"law.go:45",#[⟨4,.data⟩,⟨5,.data⟩],none⟩
def oAw9_7:Oper:=⟨some 74,.move (.tmp 12),28,"law.go:45",#[],none⟩
def oAw9_8:Oper:=⟨some 75,.binOp .add 28 (.tmp 73) (.tmp 74) 28,28,"law.go:45",#[⟨6,.data⟩,⟨7,.data⟩],none⟩
def oAw9_9:Oper:=⟨some 76,.move (.tmp 14),28,"law.go:45",#[],none⟩
def oAw9_10:Oper:=⟨some 77,.binOp .add 28 (.tmp 75) (.tmp 76) 28,28,"law.go:45",#[⟨8,.data⟩,⟨9,.data⟩],none⟩
def oAw9_11:Oper:=⟨some 78,.binOp .eql 28 (.tmp 77) (.const (.int .i64 0)) 28,4,"law.go:45",#[⟨10,.data⟩],none⟩
def oAw9_12:Oper:=⟨some 79,.move (.tmp 78),4,"law.go:45",#[⟨11,.data⟩],none⟩
def oAw9_13:Oper:=⟨some 80,.load 24 (.tmp 3),24,"law.go:45",#[⟨12,.guard⟩],some (12,true)⟩
def oAw9_14:Oper:=⟨some 81,.build 93 #[(0,.const (.int .i64 1)),(1,.const (.int .i64 3))],93,"law.go:45",#[⟨12,.guard⟩],some (12,true)⟩
def oAw9_15:Oper:=⟨some 82,.build 93 #[(0,.const (.int .i64 3)),(1,.const (.int .i64 3))],93,"law.go:45",#[⟨12,.guard⟩],some (12,true)⟩
def oAw9_16:Oper:=⟨some 83,.buildSlice 149 2 #[(0,.tmp 81),(1,.tmp 82)],149,"law.go:45",#[⟨14,.data⟩,⟨15,.data⟩,⟨12,.guard⟩],some (12,true)⟩
def oAw9_17:Oper:=⟨some 84,.call { callee:=.value (.func 49),args:=#[.tmp 83],argTypes:=#[149] },24,"law.go:45",#[⟨16,.data⟩,⟨12,.chain⟩,⟨12,.guard⟩],some (12,true)⟩
def oAw9_18:Oper:=⟨some 85,.call { callee:=.value (.func 17),args:=#[.tmp 80,.tmp 84],argTypes:=#[24,24] },4,"law.go:45",#[⟨13,.data⟩,⟨17,.data⟩,⟨17,.chain⟩,⟨12,.guard⟩],some (12,true)⟩
def oAw9_19:Oper:=⟨some 86,.pick (.tmp 79) (.tmp 85) (.const (.bool false)),4,"law.go:45",#[⟨12,.data⟩,⟨18,.data⟩],none⟩
def oAw9_20:Oper:=⟨some 87,.move (.tmp 86),4,"law.go:45",#[⟨19,.data⟩,⟨18,.chain⟩],none⟩
def oAw9_21:Oper:=⟨some 88,.move (.tmp 5),39,"law.go:45",#[⟨20,.guard⟩],some (20,true)⟩
def oAw9_22:Oper:=⟨some 89,.move (.tmp 15),39,"law.go:45",#[⟨20,.guard⟩],some (20,true)⟩
def oAw9_23:Oper:=⟨some 90,.call { callee:=.value (.func 20),args:=#[.tmp 88,.tmp 89],argTypes:=#[39,39] },4,"law.go:45",#[⟨21,.data⟩,⟨22,.data⟩,⟨20,.chain⟩,⟨20,.guard⟩],some (20,true)⟩
def oAw9_24:Oper:=⟨some 91,.pick (.tmp 87) (.tmp 90) (.const (.bool false)),4,"law.go:45",#[⟨20,.data⟩,⟨23,.data⟩],none⟩
def oAw9_25:Oper:=⟨some 92,.move (.tmp 91),4,"law.go:45",#[⟨24,.data⟩,⟨23,.chain⟩],none⟩
def oAw9_26:Oper:=⟨some 93,.move (.tmp 7),39,"law.go:45",#[⟨25,.guard⟩],some (25,true)⟩
def oAw9_27:Oper:=⟨some 94,.move (.tmp 16),39,"law.go:45",#[⟨25,.guard⟩],some (25,true)⟩
def oAw9_28:Oper:=⟨some 95,.call { callee:=.value (.func 20),args:=#[.tmp 93,.tmp 94],argTypes:=#[39,39] },4,"law.go:45",#[⟨26,.data⟩,⟨27,.data⟩,⟨25,.chain⟩,⟨25,.guard⟩],some (25,true)⟩
def oAw9_29:Oper:=⟨some 96,.pick (.tmp 92) (.tmp 95) (.const (.bool false)),4,"law.go:45",#[⟨25,.data⟩,⟨28,.data⟩],none⟩
def oAw9_30:Oper:=⟨some 97,.move (.tmp 96),4,"law.go:45",#[⟨29,.data⟩,⟨28,.chain⟩],none⟩
def oAw9_31:Oper:=⟨some 98,.move (.tmp 9),39,"law.go:45",#[⟨30,.guard⟩],some (30,true)⟩
def oAw9_32:Oper:=⟨some 99,.move (.tmp 16),39,"law.go:45",#[⟨30,.guard⟩],some (30,true)⟩
def oAw9_33:Oper:=⟨some 100,.call { callee:=.value (.func 20),args:=#[.tmp 98,.tmp 99],argTypes:=#[39,39] },4,"law.go:45",#[⟨31,.data⟩,⟨32,.data⟩,⟨30,.chain⟩,⟨30,.guard⟩],some (30,true)⟩
def oAw9_34:Oper:=⟨some 101,.pick (.tmp 97) (.tmp 100) (.const (.bool false)),4,"law.go:45",#[⟨30,.data⟩,⟨33,.data⟩],none⟩
def oAw9_35:Oper:=⟨some 102,.move (.tmp 101),4,"law.go:45",#[⟨34,.data⟩,⟨33,.chain⟩],none⟩
def oAw9_36:Oper:=⟨some 103,.move (.tmp 11),39,"law.go:45",#[⟨35,.guard⟩],some (35,true)⟩
def oAw9_37:Oper:=⟨some 104,.move (.tmp 15),39,"law.go:45",#[⟨35,.guard⟩],some (35,true)⟩
def oAw9_38:Oper:=⟨some 105,.call { callee:=.value (.func 20),args:=#[.tmp 103,.tmp 104],argTypes:=#[39,39] },4,"law.go:45",#[⟨36,.data⟩,⟨37,.data⟩,⟨35,.chain⟩,⟨35,.guard⟩],some (35,true)⟩
def oAw9_39:Oper:=⟨some 106,.pick (.tmp 102) (.tmp 105) (.const (.bool false)),4,"law.go:45",#[⟨35,.data⟩,⟨38,.data⟩],none⟩
def oAw9_40:Oper:=⟨some 107,.move (.tmp 106),4,"law.go:45",#[⟨39,.data⟩,⟨38,.chain⟩],none⟩
def oAw9_41:Oper:=⟨some 108,.move (.tmp 13),39,"law.go:45",#[⟨40,.guard⟩],some (40,true)⟩
def oAw9_42:Oper:=⟨some 109,.buildSlice 25 2 #[(0,.const (.int .i64 0)),(1,.const (.int .i64 1))],25,"law.go:45",#[⟨40,.guard⟩],some (40,true)⟩
def oAw9_43:Oper:=⟨some 110,.buildSlice 25 1 #[(0,.const (.int .i64 2))],25,"law.go:45",#[⟨40,.guard⟩],some (40,true)⟩
def oAw9_44:Oper:=⟨some 111,.buildSlice 25 1 #[(0,.const (.int .i64 3))],25,"law.go:45",#[⟨40,.guard⟩],some (40,true)⟩
def oAw9_45:Oper:=⟨some 112,.buildSlice 39 3 #[(0,.tmp 109),(1,.tmp 110),(2,.tmp 111)],39,"law.go:45",#[⟨42,.data⟩,⟨43,.data⟩,⟨44,.data⟩,⟨40,.guard⟩],some (40,true)⟩
def oAw9_46:Oper:=⟨some 113,.call { callee:=.value (.func 20),args:=#[.tmp 108,.tmp 112],argTypes:=#[39,39] },4,"law.go:45",#[⟨41,.data⟩,⟨45,.data⟩,⟨40,.chain⟩,⟨40,.guard⟩],some (40,true)⟩
def oAw9_47:Oper:=⟨some 114,.pick (.tmp 107) (.tmp 113) (.const (.bool false)),4,"law.go:45",#[⟨40,.data⟩,⟨46,.data⟩],none⟩
def oAw9_48:Oper:=⟨some 0,.assign (.tmp 114),4,"law.go:45",#[⟨47,.data⟩,⟨46,.chain⟩,⟨0,.phase⟩,⟨1,.phase⟩,⟨2,.phase⟩,⟨3,.phase⟩,⟨4,.phase⟩,⟨5,.phase⟩,⟨6,.phase⟩,⟨7,.phase⟩,⟨8,.phase⟩,⟨9,.phase⟩,⟨10,.phase⟩,⟨11,.phase⟩,⟨12,.phase⟩,⟨13,.phase⟩,⟨14,.phase⟩,⟨15,.phase⟩,⟨16,.phase⟩,⟨17,.phase⟩,⟨18,.phase⟩,⟨19,.phase⟩,⟨20,.phase⟩,⟨21,.phase⟩,⟨22,.phase⟩,⟨23,.phase⟩,⟨24,.phase⟩,⟨25,.phase⟩,⟨26,.phase⟩,⟨27,.phase⟩,⟨28,.phase⟩,⟨29,.phase⟩,⟨30,.phase⟩,⟨31,.phase⟩,⟨32,.phase⟩,⟨33,.phase⟩,⟨34,.phase⟩,⟨35,.phase⟩,⟨36,.phase⟩,⟨37,.phase⟩,⟨38,.phase⟩,⟨39,.phase⟩,⟨40,.phase⟩,⟨41,.phase⟩,⟨42,.phase⟩,⟨43,.phase⟩,⟨44,.phase⟩,⟨45,.phase⟩,⟨46,.phase⟩,⟨47,.phase⟩],none⟩
def opsAwake9:List Oper:=[oAw9_0,oAw9_1,oAw9_2,oAw9_3,oAw9_4,oAw9_5,oAw9_6,oAw9_7,oAw9_8,oAw9_9,oAw9_10,oAw9_11,oAw9_12,oAw9_13,oAw9_14,oAw9_15,oAw9_16,oAw9_17,oAw9_18,oAw9_19,oAw9_20,oAw9_21,oAw9_22,oAw9_23,oAw9_24,oAw9_25,oAw9_26,oAw9_27,oAw9_28,oAw9_29,oAw9_30,oAw9_31,oAw9_32,oAw9_33,oAw9_34,oAw9_35,oAw9_36,oAw9_37,oAw9_38,oAw9_39,oAw9_40,oAw9_41,oAw9_42,oAw9_43,oAw9_44,oAw9_45,oAw9_46,oAw9_47,oAw9_48]
theorem regAwake9 {w:World}{x0 x1 x2 x17 x18 x19 x20 x21 x22 x23 x24 x25 x26 x27 x28 x29 x30 x31 x32 x33 x34 x35 x36 x37 x38 x39 x40 x41 x42 x43 x44 x45 x46 x47 x48 x49 x50 x51 x52 x53 x54 x55 x56 x57 x58 x59 x60 x61 x62 x63 x64 x65 x66 x67 x68 x69 x70 x71 x72 x73 x74 x75 x76 x77 x78 x79 x80 x81 x82 x83 x84 x85 x86 x87 x88 x89 x90 x91 x92 x93 x94 x95 x96 x97 x98 x99 x100 x101 x102 x103 x104 x105 x106 x107 x108 x109 x110 x111 x112 x113 x114:Value}{Q:Exit→Act→World→Prop}{b3 b15 b16 c3 m5 m7 m9 m11 m13:Nat}{a3 s5 s7 s9 s11 s13:Option Addr}
  (q3:w.heap[b3]? = some (.cells #[.int .i64 2,.slice a3 1 c3] 24)) (h3:OwAdv w (.agg #[.int .i64 2,.slice a3 1 c3]) 2 awS3)
  (i5:Intss w (.slice s5 1 m5) [[0,1]]) (i7:Intss w (.slice s7 2 m7) [[0,1],[1,0]]) (i9:Intss w (.slice s9 2 m9) [[0,1],[1,0]]) (i11:Intss w (.slice s11 1 m11) [[0,1]]) (i13:Intss w (.slice s13 3 m13) [[0,1],[2],[3]]) (i15:Intss w (.slice (some ⟨b15,0,none⟩) 1 1) [[0,1]]) (i16:Intss w (.slice (some ⟨b16,0,none⟩) 2 2) [[0,1],[1,0]])
  (hfin:∀(y16 y17 y42 y43 y44 y45:Value) (W:World),(Below w.heap.size w W)→(∃g,y16 = .slice (some ⟨g,0,none⟩) 2 2∧W.heap[g]? = some (.cells #[.int .i64 1,.int .i64 3,.int .i64 3,.int .i64 3] 93))→(∃a c,y17 = .agg #[.int .i64 2,.slice a 1 c]∧OwAdv W (.agg #[.int .i64 2,.slice a 1 c]) 2 awS3)→(∃g,y42 = .slice (some ⟨g,0,none⟩) 2 2∧Ints W (.slice (some ⟨g,0,none⟩) 2 2) [0,1])→(∃g,y43 = .slice (some ⟨g,0,none⟩) 1 1∧Ints W (.slice (some ⟨g,0,none⟩) 1 1) [2])→(∃g,y44 = .slice (some ⟨g,0,none⟩) 1 1∧Ints W (.slice (some ⟨g,0,none⟩) 1 1) [3])→(∃g,y45 = .slice (some ⟨g,0,none⟩) 3 3∧Intss W (.slice (some ⟨g,0,none⟩) 3 3) [[0,1],[2],[3]])→Q .normal ⟨List.toArray (.bool true::x1::x2::.pointer (some ⟨b3,0,none⟩)::.int .i64 0::.slice s5 1 m5::.int .i64 0::.slice s7 2 m7::.int .i64 0::.slice s9 2 m9::.int .i64 0::.slice s11 1 m11::.int .i64 0::.slice s13 3 m13::.int .i64 0::.slice (some ⟨b15,0,none⟩) 1 1::.slice (some ⟨b16,0,none⟩) 2 2::x17::x18::x19::x20::x21::x22::x23::x24::x25::x26::x27::x28::x29::x30::x31::x32::x33::x34::x35::x36::x37::x38::x39::x40::x41::x42::x43::x44::x45::x46::x47::x48::x49::x50::x51::x52::x53::x54::x55::x56::x57::x58::x59::x60::x61::x62::x63::x64::x65::x66::.int .i64 0::.int .i64 0::.int .i64 0::.int .i64 0::.int .i64 0::.int .i64 0::.int .i64 0::.int .i64 0::.int .i64 0::.int .i64 0::.int .i64 0::.bool true::.bool true::.agg #[.int .i64 2,.slice a3 1 c3]::.agg #[.int .i64 1,.int .i64 3]::.agg #[.int .i64 3,.int .i64 3]::y16::y17::.bool true::.bool true::.bool true::.slice s5 1 m5::.slice (some ⟨b15,0,none⟩) 1 1::.bool true::.bool true::.bool true::.slice s7 2 m7::.slice (some ⟨b16,0,none⟩) 2 2::.bool true::.bool true::.bool true::.slice s9 2 m9::.slice (some ⟨b16,0,none⟩) 2 2::.bool true::.bool true::.bool true::.slice s11 1 m11::.slice (some ⟨b15,0,none⟩) 1 1::.bool true::.bool true::.bool true::.slice s13 3 m13::y42::y43::y44::y45::.bool true::.bool true::[]),[]⟩ W) :
  (Code.region 9 opsAwake9.toArray true).wp Tryz.prog Q ⟨List.toArray (x0::x1::x2::.pointer (some ⟨b3,0,none⟩)::.int .i64 0::.slice s5 1 m5::.int .i64 0::.slice s7 2 m7::.int .i64 0::.slice s9 2 m9::.int .i64 0::.slice s11 1 m11::.int .i64 0::.slice s13 3 m13::.int .i64 0::.slice (some ⟨b15,0,none⟩) 1 1::.slice (some ⟨b16,0,none⟩) 2 2::x17::x18::x19::x20::x21::x22::x23::x24::x25::x26::x27::x28::x29::x30::x31::x32::x33::x34::x35::x36::x37::x38::x39::x40::x41::x42::x43::x44::x45::x46::x47::x48::x49::x50::x51::x52::x53::x54::x55::x56::x57::x58::x59::x60::x61::x62::x63::x64::x65::x66::x67::x68::x69::x70::x71::x72::x73::x74::x75::x76::x77::x78::x79::x80::x81::x82::x83::x84::x85::x86::x87::x88::x89::x90::x91::x92::x93::x94::x95::x96::x97::x98::x99::x100::x101::x102::x103::x104::x105::x106::x107::x108::x109::x110::x111::x112::x113::x114::[]),[]⟩ w:=by
 obtain⟨SG,hSG⟩:=exS (StepG Tryz.prog opsAwake9.toArray (fun ys=>⟨List.toArray (ys 48::x1::x2::.pointer (some ⟨b3,0,none⟩)::.int .i64 0::.slice s5 1 m5::.int .i64 0::.slice s7 2 m7::.int .i64 0::.slice s9 2 m9::.int .i64 0::.slice s11 1 m11::.int .i64 0::.slice s13 3 m13::.int .i64 0::.slice (some ⟨b15,0,none⟩) 1 1::.slice (some ⟨b16,0,none⟩) 2 2::x17::x18::x19::x20::x21::x22::x23::x24::x25::x26::x27::x28::x29::x30::x31::x32::x33::x34::x35::x36::x37::x38::x39::x40::x41::x42::x43::x44::x45::x46::x47::x48::x49::x50::x51::x52::x53::x54::x55::x56::x57::x58::x59::x60::x61::x62::x63::x64::x65::x66::ys 0::ys 1::ys 2::ys 3::ys 4::ys 5::ys 6::ys 7::ys 8::ys 9::ys 10::ys 11::ys 12::ys 13::ys 14::ys 15::ys 16::ys 17::ys 18::ys 19::ys 20::ys 21::ys 22::ys 23::ys 24::ys 25::ys 26::ys 27::ys 28::ys 29::ys 30::ys 31::ys 32::ys 33::ys 34::ys 35::ys 36::ys 37::ys 38::ys 39::ys 40::ys 41::ys 42::ys 43::ys 44::ys 45::ys 46::ys 47::[]),[]⟩) [eqV (.int .i64 0),eqV (.int .i64 0),eqV (.int .i64 0),eqV (.int .i64 0),eqV (.int .i64 0),eqV (.int .i64 0),eqV (.int .i64 0),eqV (.int .i64 0),eqV (.int .i64 0),eqV (.int .i64 0),eqV (.int .i64 0),eqV (.bool true),eqV (.bool true),eqV (.agg #[.int .i64 2,.slice a3 1 c3]),eqV (.agg #[.int .i64 1,.int .i64 3]),eqV (.agg #[.int .i64 3,.int .i64 3]),fun W v=>∃g,v = .slice (some ⟨g,0,none⟩) 2 2∧W.heap[g]? = some (.cells #[.int .i64 1,.int .i64 3,.int .i64 3,.int .i64 3] 93),fun W v=>∃a c,v = .agg #[.int .i64 2,.slice a 1 c]∧OwAdv W (.agg #[.int .i64 2,.slice a 1 c]) 2 awS3,eqV (.bool true),eqV (.bool true),eqV (.bool true),eqV (.slice s5 1 m5),eqV (.slice (some ⟨b15,0,none⟩) 1 1),eqV (.bool true),eqV (.bool true),eqV (.bool true),eqV (.slice s7 2 m7),eqV (.slice (some ⟨b16,0,none⟩) 2 2),eqV (.bool true),eqV (.bool true),eqV (.bool true),eqV (.slice s9 2 m9),eqV (.slice (some ⟨b16,0,none⟩) 2 2),eqV (.bool true),eqV (.bool true),eqV (.bool true),eqV (.slice s11 1 m11),eqV (.slice (some ⟨b15,0,none⟩) 1 1),eqV (.bool true),eqV (.bool true),eqV (.bool true),eqV (.slice s13 3 m13),fun W v=>∃g,v = .slice (some ⟨g,0,none⟩) 2 2∧Ints W (.slice (some ⟨g,0,none⟩) 2 2) [0,1],fun W v=>∃g,v = .slice (some ⟨g,0,none⟩) 1 1∧Ints W (.slice (some ⟨g,0,none⟩) 1 1) [2],fun W v=>∃g,v = .slice (some ⟨g,0,none⟩) 1 1∧Ints W (.slice (some ⟨g,0,none⟩) 1 1) [3],fun W v=>∃g,v = .slice (some ⟨g,0,none⟩) 3 3∧Intss W (.slice (some ⟨g,0,none⟩) 3 3) [[0,1],[2],[3]],eqV (.bool true),eqV (.bool true),eqV (.bool true)] (fun W W'=>Below W.heap.size W W') (fun _ _ W=>Below w.heap.size w W) Q)
 have st0:SG 0 oAw9_0:=by
  subst hSG;refine StepG.mk rfl fun ys D W K _ _ _ hG hK=>?_;unfold oAw9_0;go_simp;exact hK _ _ (Below.refl _ _) hG rfl
 have st1:SG 1 oAw9_1:=by
  subst hSG;refine StepG.mk rfl fun ys D W K _ _ _ hG hK=>?_;unfold oAw9_1;go_simp;exact hK _ _ (Below.refl _ _) hG rfl
 have st2:SG 2 oAw9_2:=by
  subst hSG;refine StepG.mk rfl (openY 0 fun y0=>openY 1 fun y1=>fun ys D W K _ _ hd hG hK=>?_);have e0:y0=_:=(hd.get 0 rfl).2;have e1:y1=_:=(hd.get 1 rfl).2;subst e0 e1;simp only[updG,Nat.reduceEqDiff,reduceIte];unfold oAw9_2;go_simp;exact hK _ _ (Below.refl _ _) hG rfl
 have st3:SG 3 oAw9_3:=by
  subst hSG;refine StepG.mk rfl fun ys D W K _ _ _ hG hK=>?_;unfold oAw9_3;go_simp;exact hK _ _ (Below.refl _ _) hG rfl
 have st4:SG 4 oAw9_4:=by
  subst hSG;refine StepG.mk rfl (openY 2 fun y2=>openY 3 fun y3=>fun ys D W K _ _ hd hG hK=>?_);have e2:y2=_:=(hd.get 2 rfl).2;have e3:y3=_:=(hd.get 3 rfl).2;subst e2 e3;simp only[updG,Nat.reduceEqDiff,reduceIte];unfold oAw9_4;go_simp;exact hK _ _ (Below.refl _ _) hG rfl
 have st5:SG 5 oAw9_5:=by
  subst hSG;refine StepG.mk rfl fun ys D W K _ _ _ hG hK=>?_;unfold oAw9_5;go_simp;exact hK _ _ (Below.refl _ _) hG rfl
 have st6:SG 6 oAw9_6:=by
  subst hSG;refine StepG.mk rfl (openY 4 fun y4=>openY 5 fun y5=>fun ys D W K _ _ hd hG hK=>?_);have e4:y4=_:=(hd.get 4 rfl).2;have e5:y5=_:=(hd.get 5 rfl).2;subst e4 e5;simp only[updG,Nat.reduceEqDiff,reduceIte];unfold oAw9_6;go_simp;exact hK _ _ (Below.refl _ _) hG rfl
 have st7:SG 7 oAw9_7:=by
  subst hSG;refine StepG.mk rfl fun ys D W K _ _ _ hG hK=>?_;unfold oAw9_7;go_simp;exact hK _ _ (Below.refl _ _) hG rfl
 have st8:SG 8 oAw9_8:=by
  subst hSG;refine StepG.mk rfl (openY 6 fun y6=>openY 7 fun y7=>fun ys D W K _ _ hd hG hK=>?_);have e6:y6=_:=(hd.get 6 rfl).2;have e7:y7=_:=(hd.get 7 rfl).2;subst e6 e7;simp only[updG,Nat.reduceEqDiff,reduceIte];unfold oAw9_8;go_simp;exact hK _ _ (Below.refl _ _) hG rfl
 have st9:SG 9 oAw9_9:=by
  subst hSG;refine StepG.mk rfl fun ys D W K _ _ _ hG hK=>?_;unfold oAw9_9;go_simp;exact hK _ _ (Below.refl _ _) hG rfl
 have st10:SG 10 oAw9_10:=by
  subst hSG;refine StepG.mk rfl (openY 8 fun y8=>openY 9 fun y9=>fun ys D W K _ _ hd hG hK=>?_);have e8:y8=_:=(hd.get 8 rfl).2;have e9:y9=_:=(hd.get 9 rfl).2;subst e8 e9;simp only[updG,Nat.reduceEqDiff,reduceIte];unfold oAw9_10;go_simp;exact hK _ _ (Below.refl _ _) hG rfl
 have st11:SG 11 oAw9_11:=by
  subst hSG;refine StepG.mk rfl (openY 10 fun y10=>fun ys D W K _ _ hd hG hK=>?_);have e10:y10=_:=(hd.get 10 rfl).2;subst e10;simp only[updG,Nat.reduceEqDiff,reduceIte];unfold oAw9_11;go_simp;exact hK _ _ (Below.refl _ _) hG rfl
 have st12:SG 12 oAw9_12:=by
  subst hSG;refine StepG.mk rfl (openY 11 fun y11=>fun ys D W K _ _ hd hG hK=>?_);have e11:y11=_:=(hd.get 11 rfl).2;subst e11;simp only[updG,Nat.reduceEqDiff,reduceIte];unfold oAw9_12;go_simp;exact hK _ _ (Below.refl _ _) hG rfl
 have st13:SG 13 oAw9_13:=by
  subst hSG;refine StepG.mkG 12 79 fun ys D W K _ _ _ hG hK=>?_;unfold oAw9_13;have k3:=(hG.block b3 (Array.getElem?_eq_some_iff.1 q3).1).trans q3;obtain⟨p0,p1⟩:=boxL2 k3;go_simp;exact hK _ _ (Below.refl _ _) hG rfl
 have st14:SG 14 oAw9_14:=by
  subst hSG;refine StepG.mkG 12 79 fun ys D W K _ _ _ hG hK=>?_;unfold oAw9_14;go_simp;exact hK _ _ (Below.refl _ _) hG rfl
 have st15:SG 15 oAw9_15:=by
  subst hSG;refine StepG.mkG 12 79 fun ys D W K _ _ _ hG hK=>?_;unfold oAw9_15;go_simp;exact hK _ _ (Below.refl _ _) hG rfl
 have st16:SG 16 oAw9_16:=by
  subst hSG;refine StepG.mkG 12 79 (openY 14 fun y14=>openY 15 fun y15=>fun ys D W K _ _ hd hG hK=>?_);have e14:y14=_:=(hd.get 14 rfl).2;have e15:y15=_:=(hd.get 15 rfl).2;subst e14 e15;simp only[updG,Nat.reduceEqDiff,reduceIte];unfold oAw9_16;have hba:=(Below.refl W.heap.size W).alloc (Nat.le_refl _) (.cells #[.int .i64 1,.int .i64 3,.int .i64 3,.int .i64 3] 93);go_simp;exact hK _ _ hba (btt hG hba) ⟨_,rfl,heap_alloc_new _ _⟩
 have st17:SG 17 oAw9_17:=by
  subst hSG;refine StepG.mkG 12 79 (openY 16 fun y16=>fun ys D W K _ _ hd hG hK=>?_);obtain⟨d16,e16⟩:D 16=true∧(∃g,y16 = .slice (some ⟨g,0,none⟩) 2 2∧W.heap[g]? = some (.cells #[.int .i64 1,.int .i64 3,.int .i64 3,.int .i64 3] 93)):=hd.get 16 rfl;simp only[updG,Nat.reduceEqDiff,reduceIte];unfold oAw9_17;obtain⟨g,rfl,hg⟩:=e16;have HM:=gr4 (S:=awS3) rfl W g hg;go_simp;refine HM.mono ?_;rintro e W9 ⟨a,c,rfl,hr,hb9⟩;exact hK _ _ hb9 (btt hG hb9) ⟨a,c,rfl,hr⟩
 have st18:SG 18 oAw9_18:=by
  subst hSG;refine StepG.mkG 12 79 (openY 13 fun y13=>openY 17 fun y17=>fun ys D W K _ _ hd hG hK=>?_);have e13:y13=_:=(hd.get 13 rfl).2;obtain⟨d17,e17⟩:D 17=true∧(∃a c,y17 = .agg #[.int .i64 2,.slice a 1 c]∧OwAdv W (.agg #[.int .i64 2,.slice a 1 c]) 2 awS3):=hd.get 17 rfl;subst e13;simp only[updG,Nat.reduceEqDiff,reduceIte];unfold oAw9_18;obtain⟨a,c,rfl,hr⟩:=e17;have HM:=sameRef (h3.keep hG).adv hr.adv;go_simp;refine HM.mono ?_;rintro e W9 ⟨rfl,hb9⟩;exact hK _ _ hb9 (btt hG hb9) rfl
 have st19:SG 19 oAw9_19:=by
  subst hSG;refine StepG.mk rfl (openY 12 fun y12=>openY 18 fun y18=>fun ys D W K _ _ hd hG hK=>?_);have e12:y12=_:=(hd.get 12 rfl).2;have e18:y18=_:=(hd.get 18 rfl).2;subst e12 e18;simp only[updG,Nat.reduceEqDiff,reduceIte];unfold oAw9_19;go_simp;exact hK _ _ (Below.refl _ _) hG rfl
 have st20:SG 20 oAw9_20:=by
  subst hSG;refine StepG.mk rfl (openY 19 fun y19=>fun ys D W K _ _ hd hG hK=>?_);have e19:y19=_:=(hd.get 19 rfl).2;subst e19;simp only[updG,Nat.reduceEqDiff,reduceIte];unfold oAw9_20;go_simp;exact hK _ _ (Below.refl _ _) hG rfl
 have st21:SG 21 oAw9_21:=by
  subst hSG;refine StepG.mkG 20 87 fun ys D W K _ _ _ hG hK=>?_;unfold oAw9_21;go_simp;exact hK _ _ (Below.refl _ _) hG rfl
 have st22:SG 22 oAw9_22:=by
  subst hSG;refine StepG.mkG 20 87 fun ys D W K _ _ _ hG hK=>?_;unfold oAw9_22;go_simp;exact hK _ _ (Below.refl _ _) hG rfl
 have st23:SG 23 oAw9_23:=by
  subst hSG;refine StepG.mkG 20 87 (openY 21 fun y21=>openY 22 fun y22=>fun ys D W K _ _ hd hG hK=>?_);have e21:y21=_:=(hd.get 21 rfl).2;have e22:y22=_:=(hd.get 22 rfl).2;subst e21 e22;simp only[updG,Nat.reduceEqDiff,reduceIte];unfold oAw9_23;have HM:=sAll (i5.keep hG) (i15.keep hG);go_simp;refine HM.mono ?_;rintro e W9 ⟨rfl,hq9⟩;exact hK _ _ hq9.below (btt hG hq9.below) rfl
 have st24:SG 24 oAw9_24:=by
  subst hSG;refine StepG.mk rfl (openY 20 fun y20=>openY 23 fun y23=>fun ys D W K _ _ hd hG hK=>?_);have e20:y20=_:=(hd.get 20 rfl).2;have e23:y23=_:=(hd.get 23 rfl).2;subst e20 e23;simp only[updG,Nat.reduceEqDiff,reduceIte];unfold oAw9_24;go_simp;exact hK _ _ (Below.refl _ _) hG rfl
 have st25:SG 25 oAw9_25:=by
  subst hSG;refine StepG.mk rfl (openY 24 fun y24=>fun ys D W K _ _ hd hG hK=>?_);have e24:y24=_:=(hd.get 24 rfl).2;subst e24;simp only[updG,Nat.reduceEqDiff,reduceIte];unfold oAw9_25;go_simp;exact hK _ _ (Below.refl _ _) hG rfl
 have st26:SG 26 oAw9_26:=by
  subst hSG;refine StepG.mkG 25 92 fun ys D W K _ _ _ hG hK=>?_;unfold oAw9_26;go_simp;exact hK _ _ (Below.refl _ _) hG rfl
 have st27:SG 27 oAw9_27:=by
  subst hSG;refine StepG.mkG 25 92 fun ys D W K _ _ _ hG hK=>?_;unfold oAw9_27;go_simp;exact hK _ _ (Below.refl _ _) hG rfl
 have st28:SG 28 oAw9_28:=by
  subst hSG;refine StepG.mkG 25 92 (openY 26 fun y26=>openY 27 fun y27=>fun ys D W K _ _ hd hG hK=>?_);have e26:y26=_:=(hd.get 26 rfl).2;have e27:y27=_:=(hd.get 27 rfl).2;subst e26 e27;simp only[updG,Nat.reduceEqDiff,reduceIte];unfold oAw9_28;have HM:=sAll (i7.keep hG) (i16.keep hG);go_simp;refine HM.mono ?_;rintro e W9 ⟨rfl,hq9⟩;exact hK _ _ hq9.below (btt hG hq9.below) rfl
 have st29:SG 29 oAw9_29:=by
  subst hSG;refine StepG.mk rfl (openY 25 fun y25=>openY 28 fun y28=>fun ys D W K _ _ hd hG hK=>?_);have e25:y25=_:=(hd.get 25 rfl).2;have e28:y28=_:=(hd.get 28 rfl).2;subst e25 e28;simp only[updG,Nat.reduceEqDiff,reduceIte];unfold oAw9_29;go_simp;exact hK _ _ (Below.refl _ _) hG rfl
 have st30:SG 30 oAw9_30:=by
  subst hSG;refine StepG.mk rfl (openY 29 fun y29=>fun ys D W K _ _ hd hG hK=>?_);have e29:y29=_:=(hd.get 29 rfl).2;subst e29;simp only[updG,Nat.reduceEqDiff,reduceIte];unfold oAw9_30;go_simp;exact hK _ _ (Below.refl _ _) hG rfl
 have st31:SG 31 oAw9_31:=by
  subst hSG;refine StepG.mkG 30 97 fun ys D W K _ _ _ hG hK=>?_;unfold oAw9_31;go_simp;exact hK _ _ (Below.refl _ _) hG rfl
 have st32:SG 32 oAw9_32:=by
  subst hSG;refine StepG.mkG 30 97 fun ys D W K _ _ _ hG hK=>?_;unfold oAw9_32;go_simp;exact hK _ _ (Below.refl _ _) hG rfl
 have st33:SG 33 oAw9_33:=by
  subst hSG;refine StepG.mkG 30 97 (openY 31 fun y31=>openY 32 fun y32=>fun ys D W K _ _ hd hG hK=>?_);have e31:y31=_:=(hd.get 31 rfl).2;have e32:y32=_:=(hd.get 32 rfl).2;subst e31 e32;simp only[updG,Nat.reduceEqDiff,reduceIte];unfold oAw9_33;have HM:=sAll (i9.keep hG) (i16.keep hG);go_simp;refine HM.mono ?_;rintro e W9 ⟨rfl,hq9⟩;exact hK _ _ hq9.below (btt hG hq9.below) rfl
 have st34:SG 34 oAw9_34:=by
  subst hSG;refine StepG.mk rfl (openY 30 fun y30=>openY 33 fun y33=>fun ys D W K _ _ hd hG hK=>?_);have e30:y30=_:=(hd.get 30 rfl).2;have e33:y33=_:=(hd.get 33 rfl).2;subst e30 e33;simp only[updG,Nat.reduceEqDiff,reduceIte];unfold oAw9_34;go_simp;exact hK _ _ (Below.refl _ _) hG rfl
 have st35:SG 35 oAw9_35:=by
  subst hSG;refine StepG.mk rfl (openY 34 fun y34=>fun ys D W K _ _ hd hG hK=>?_);have e34:y34=_:=(hd.get 34 rfl).2;subst e34;simp only[updG,Nat.reduceEqDiff,reduceIte];unfold oAw9_35;go_simp;exact hK _ _ (Below.refl _ _) hG rfl
 have st36:SG 36 oAw9_36:=by
  subst hSG;refine StepG.mkG 35 102 fun ys D W K _ _ _ hG hK=>?_;unfold oAw9_36;go_simp;exact hK _ _ (Below.refl _ _) hG rfl
 have st37:SG 37 oAw9_37:=by
  subst hSG;refine StepG.mkG 35 102 fun ys D W K _ _ _ hG hK=>?_;unfold oAw9_37;go_simp;exact hK _ _ (Below.refl _ _) hG rfl
 have st38:SG 38 oAw9_38:=by
  subst hSG;refine StepG.mkG 35 102 (openY 36 fun y36=>openY 37 fun y37=>fun ys D W K _ _ hd hG hK=>?_);have e36:y36=_:=(hd.get 36 rfl).2;have e37:y37=_:=(hd.get 37 rfl).2;subst e36 e37;simp only[updG,Nat.reduceEqDiff,reduceIte];unfold oAw9_38;have HM:=sAll (i11.keep hG) (i15.keep hG);go_simp;refine HM.mono ?_;rintro e W9 ⟨rfl,hq9⟩;exact hK _ _ hq9.below (btt hG hq9.below) rfl
 have st39:SG 39 oAw9_39:=by
  subst hSG;refine StepG.mk rfl (openY 35 fun y35=>openY 38 fun y38=>fun ys D W K _ _ hd hG hK=>?_);have e35:y35=_:=(hd.get 35 rfl).2;have e38:y38=_:=(hd.get 38 rfl).2;subst e35 e38;simp only[updG,Nat.reduceEqDiff,reduceIte];unfold oAw9_39;go_simp;exact hK _ _ (Below.refl _ _) hG rfl
 have st40:SG 40 oAw9_40:=by
  subst hSG;refine StepG.mk rfl (openY 39 fun y39=>fun ys D W K _ _ hd hG hK=>?_);have e39:y39=_:=(hd.get 39 rfl).2;subst e39;simp only[updG,Nat.reduceEqDiff,reduceIte];unfold oAw9_40;go_simp;exact hK _ _ (Below.refl _ _) hG rfl
 have st41:SG 41 oAw9_41:=by
  subst hSG;refine StepG.mkG 40 107 fun ys D W K _ _ _ hG hK=>?_;unfold oAw9_41;go_simp;exact hK _ _ (Below.refl _ _) hG rfl
 have st42:SG 42 oAw9_42:=by
  subst hSG;refine StepG.mkG 40 107 fun ys D W K _ _ _ hG hK=>?_;unfold oAw9_42;have hba:=(Below.refl W.heap.size W).alloc (Nat.le_refl _) (.cells #[.int .i64 0,.int .i64 1] 3);go_simp;exact hK _ _ hba (btt hG hba) ⟨_,rfl,ints2 (heap_alloc_new _ _)⟩
 have st43:SG 43 oAw9_43:=by
  subst hSG;refine StepG.mkG 40 107 fun ys D W K _ _ _ hG hK=>?_;unfold oAw9_43;have hba:=(Below.refl W.heap.size W).alloc (Nat.le_refl _) (.cells #[.int .i64 2] 3);go_simp;exact hK _ _ hba (btt hG hba) ⟨_,rfl,ints1 (heap_alloc_new _ _)⟩
 have st44:SG 44 oAw9_44:=by
  subst hSG;refine StepG.mkG 40 107 fun ys D W K _ _ _ hG hK=>?_;unfold oAw9_44;have hba:=(Below.refl W.heap.size W).alloc (Nat.le_refl _) (.cells #[.int .i64 3] 3);go_simp;exact hK _ _ hba (btt hG hba) ⟨_,rfl,ints1 (heap_alloc_new _ _)⟩
 have st45:SG 45 oAw9_45:=by
  subst hSG;refine StepG.mkG 40 107 (openY 42 fun y42=>openY 43 fun y43=>openY 44 fun y44=>fun ys D W K _ _ hd hG hK=>?_);obtain⟨d42,e42⟩:D 42=true∧(∃g,y42 = .slice (some ⟨g,0,none⟩) 2 2∧Ints W (.slice (some ⟨g,0,none⟩) 2 2) [0,1]):=hd.get 42 rfl;obtain⟨d43,e43⟩:D 43=true∧(∃g,y43 = .slice (some ⟨g,0,none⟩) 1 1∧Ints W (.slice (some ⟨g,0,none⟩) 1 1) [2]):=hd.get 43 rfl;obtain⟨d44,e44⟩:D 44=true∧(∃g,y44 = .slice (some ⟨g,0,none⟩) 1 1∧Ints W (.slice (some ⟨g,0,none⟩) 1 1) [3]):=hd.get 44 rfl;simp only[updG,Nat.reduceEqDiff,reduceIte];unfold oAw9_45;obtain⟨g0,rfl,j0⟩:=e42;obtain⟨g1,rfl,j1⟩:=e43;obtain⟨g2,rfl,j2⟩:=e44;have hba:=(Below.refl W.heap.size W).alloc (Nat.le_refl _) (.cells #[.slice (some ⟨g0,0,none⟩) 2 2,.slice (some ⟨g1,0,none⟩) 1 1,.slice (some ⟨g2,0,none⟩) 1 1] 25);go_simp;exact hK _ _ hba (btt hG hba) ⟨_,rfl,intss3 (heap_alloc_new _ _) (j0.keep hba) (j1.keep hba) (j2.keep hba)⟩
 have st46:SG 46 oAw9_46:=by
  subst hSG;refine StepG.mkG 40 107 (openY 41 fun y41=>openY 45 fun y45=>fun ys D W K _ _ hd hG hK=>?_);have e41:y41=_:=(hd.get 41 rfl).2;obtain⟨d45,e45⟩:D 45=true∧(∃g,y45 = .slice (some ⟨g,0,none⟩) 3 3∧Intss W (.slice (some ⟨g,0,none⟩) 3 3) [[0,1],[2],[3]]):=hd.get 45 rfl;subst e41;simp only[updG,Nat.reduceEqDiff,reduceIte];unfold oAw9_46;obtain⟨g0,rfl,j0⟩:=e45;have HM:=sAll (i13.keep hG) j0;go_simp;refine HM.mono ?_;rintro e W9 ⟨rfl,hq9⟩;exact hK _ _ hq9.below (btt hG hq9.below) rfl
 have st47:SG 47 oAw9_47:=by
  subst hSG;refine StepG.mk rfl (openY 40 fun y40=>openY 46 fun y46=>fun ys D W K _ _ hd hG hK=>?_);have e40:y40=_:=(hd.get 40 rfl).2;have e46:y46=_:=(hd.get 46 rfl).2;subst e40 e46;simp only[updG,Nat.reduceEqDiff,reduceIte];unfold oAw9_47;go_simp;exact hK _ _ (Below.refl _ _) hG rfl
 have st48:SG 48 oAw9_48:=by
  subst hSG;refine StepG.mk rfl (openY 47 fun y47=>fun ys D W K _ _ hd hG hK=>?_);have e47:y47=_:=(hd.get 47 rfl).2;subst e47;simp only[updG,Nat.reduceEqDiff,reduceIte];unfold oAw9_48;go_simp;exact hK _ _ (Below.refl _ _) hG rfl
 subst hSG;refine wp_region_sg (l:=opsAwake9) ⟨st0,st1,st2,st3,st4,st5,st6,st7,st8,st9,st10,st11,st12,st13,st14,st15,st16,st17,st18,st19,st20,st21,st22,st23,st24,st25,st26,st27,st28,st29,st30,st31,st32,st33,st34,st35,st36,st37,st38,st39,st40,st41,st42,st43,st44,st45,st46,st47,st48,trivial⟩ (fun i=>([x67,x68,x69,x70,x71,x72,x73,x74,x75,x76,x77,x78,x79,x80,x81,x82,x83,x84,x85,x86,x87,x88,x89,x90,x91,x92,x93,x94,x95,x96,x97,x98,x99,x100,x101,x102,x103,x104,x105,x106,x107,x108,x109,x110,x111,x112,x113,x114,x0]:List Value).getD i undef) (by kernel_rfl) (by kernel_rfl) ⟨sE,sE,sE,sE,sE,sE,sE,sE,sE,sE,sE,sE,sE,sE,sE,sE,fun W W' v ⟨g,e,h⟩ r=>⟨g,e,(r.block g (Array.getElem?_eq_some_iff.1 h).1).trans h⟩,fun W W' v ⟨a,c,e,h⟩ r=>⟨a,c,e,OwAdv.keep h r⟩,sE,sE,sE,sE,sE,sE,sE,sE,sE,sE,sE,sE,sE,sE,sE,sE,sE,sE,sE,sE,sE,sE,sE,sE,fun W W' v ⟨g,e,h⟩ r=>⟨g,e,Ints.keep h r⟩,fun W W' v ⟨g,e,h⟩ r=>⟨g,e,Ints.keep h r⟩,fun W W' v ⟨g,e,h⟩ r=>⟨g,e,Ints.keep h r⟩,fun W W' v ⟨g,e,h⟩ r=>⟨g,e,Intss.keep h r⟩,sE,sE,sE,trivial⟩ ?g0 ?gx ?fin
 case g0=>exact below_drewN (Below.refl w.heap.size w) 1
 case gx=>exact fun _ _ _ _ _ h=>h
 case fin=>
  intro ys W hG hp;try dsimp only
  rw[(hp 0 (by decide):ys 0=_),(hp 1 (by decide):ys 1=_),(hp 2 (by decide):ys 2=_),(hp 3 (by decide):ys 3=_),(hp 4 (by decide):ys 4=_),(hp 5 (by decide):ys 5=_),(hp 6 (by decide):ys 6=_),(hp 7 (by decide):ys 7=_),(hp 8 (by decide):ys 8=_),(hp 9 (by decide):ys 9=_),(hp 10 (by decide):ys 10=_),(hp 11 (by decide):ys 11=_),(hp 12 (by decide):ys 12=_),(hp 13 (by decide):ys 13=_),(hp 14 (by decide):ys 14=_),(hp 15 (by decide):ys 15=_),(hp 18 (by decide):ys 18=_),(hp 19 (by decide):ys 19=_),(hp 20 (by decide):ys 20=_),(hp 21 (by decide):ys 21=_),(hp 22 (by decide):ys 22=_),(hp 23 (by decide):ys 23=_),(hp 24 (by decide):ys 24=_),(hp 25 (by decide):ys 25=_),(hp 26 (by decide):ys 26=_),(hp 27 (by decide):ys 27=_),(hp 28 (by decide):ys 28=_),(hp 29 (by decide):ys 29=_),(hp 30 (by decide):ys 30=_),(hp 31 (by decide):ys 31=_),(hp 32 (by decide):ys 32=_),(hp 33 (by decide):ys 33=_),(hp 34 (by decide):ys 34=_),(hp 35 (by decide):ys 35=_),(hp 36 (by decide):ys 36=_),(hp 37 (by decide):ys 37=_),(hp 38 (by decide):ys 38=_),(hp 39 (by decide):ys 39=_),(hp 40 (by decide):ys 40=_),(hp 41 (by decide):ys 41=_),(hp 46 (by decide):ys 46=_),(hp 47 (by decide):ys 47=_),(hp 48 (by decide):ys 48=_)];exact hfin (ys 16) (ys 17) (ys 42) (ys 43) (ys 44) (ys 45) W hG (hp 16 (by decide)) (hp 17 (by decide)) (hp 42 (by decide)) (hp 43 (by decide)) (hp 44 (by decide)) (hp 45 (by decide))
theorem awakeC {w:World}:Calls Tryz.prog 12 #[] w fun e w'=>e = .returned (.bool true)∧Below w.heap.size w w':=by
 have HG1:Hid (∀W b,W.heap[b]? = some (.cells #[.int .i64 3,.int .i64 2,.int .i64 3,.int .i64 3] 93)→Calls Tryz.prog 49 #[.slice (some ⟨b,0,none⟩) 2 2] W (GrOut awS1 W)):=gr4 rfl;have HG2:Hid (∀W b,W.heap[b]? = some (.cells #[.int .i64 1,.int .i64 3,.int .i64 3,.int .i64 2,.int .i64 3,.int .i64 3] 93)→Calls Tryz.prog 49 #[.slice (some ⟨b,0,none⟩) 3 3] W (GrOut awS2 W)):=gr6 rfl;have HG3:Hid (∀W b,W.heap[b]? = some (.cells #[.int .i64 1,.int .i64 3,.int .i64 3,.int .i64 3] 93)→Calls Tryz.prog 49 #[.slice (some ⟨b,0,none⟩) 2 2] W (GrOut awS3 W)):=gr4 rfl;have HPm:Hid (∀W v u,AdvV W v 2 awS1→Ints W u [1,0]→Calls Tryz.prog 13 #[v,u] W (PmOut W)):=fun W v u hv hu=>permOut hv hu
 have HGr1:Hid (∀W v,AdvC W v 2 awS1→Calls Tryz.prog 18 #[v] W (RII W [[0,1]] 0)):=fun W v hv=>by
  have:=groupC hv awF1
  rwa [awG1,awn1] at this
 have HGr2:Hid (∀W v,AdvC W v 2 awS2→Calls Tryz.prog 18 #[v] W (RII W [[0,1],[1,0]] 0)):=fun W v hv=>by
  have:=groupC hv awF2
  rwa [awG2,awn2] at this
 go_enter Tryz.func12, Tryz.ntmps12
 go_wp2_with fail
 refine(HG1.out _ _ (heap_alloc_new _ _)).mono ?_;rintro e w1 ⟨a1,c1,rfl,hr1,hb1⟩;go_wp2_with fail
 refine(HG2.out _ _ (heap_alloc_new _ _)).mono ?_;rintro e w2 ⟨a2,c2,rfl,hr2,hb2⟩;have hal:=(Below.refl w1.heap.size w1).alloc (Nat.le_refl _) (.cells #[.int .i64 1,.int .i64 3,.int .i64 3,.int .i64 2,.int .i64 3,.int .i64 3] 93);have h0w:=(Below.refl w.heap.size w).alloc (Nat.le_refl _) (.cells #[.int .i64 3,.int .i64 2,.int .i64 3,.int .i64 3] 93);have hw1:=bt h0w hb1 h0w.size;have hw1':=bt hw1 hal hw1.size;have hw2:=bt hw1' hb2 hw1'.size;replace hr1:=qH (hr1.keep (btt hal hb2));replace hr2:=qH hr2;obtain⟨W3,hW3⟩:=exF ((w2.alloc (.cells #[.int .i64 2,.slice a1 1 c1] 24)).alloc (.cells #[.int .i64 2,.slice a2 1 c2] 24));have hb3:Below w2.heap.size w2 W3:=by rw[hW3];exact((Below.refl _ _).alloc (Nat.le_refl _) _).alloc (by simp) _
 have kA:W3.heap[w2.heap.size]? = some (.cells #[.int .i64 2,.slice a1 1 c1] 24):=by rw[hW3];exact(Below.heap_alloc _ _ _ (by simp)).trans (heap_alloc_new _ _)
 have kB:W3.heap[w2.heap.size+1]? = some (.cells #[.int .i64 2,.slice a2 1 c2] 24):=by
  have h:=heap_alloc_new (w2.alloc (.cells #[.int .i64 2,.slice a1 1 c1] 24)) (.cells #[.int .i64 2,.slice a2 1 c2] 24);rw[World.size_alloc] at h;rw[hW3];exact h
 obtain⟨p0,p1⟩:=boxL2 kA;obtain⟨q0,q1⟩:=boxL2 kB;have hK:=qH (fun W (hb:Below W3.heap.size W3 W)=>And.intro (boxL2 ((hb.block _ (Array.getElem?_eq_some_iff.1 kA).1).trans kA)) (boxL2 ((hb.block _ (Array.getElem?_eq_some_iff.1 kB).1).trans kB)));have hA1:=qH (fun W (hb:Below W3.heap.size W3 W)=>((hr1.out.advC.keep hb3).keep hb:AdvC W _ 2 awS1));have hA2:=qH (fun W (hb:Below W3.heap.size W3 W)=>((hr2.out.advC.keep hb3).keep hb:AdvC W _ 2 awS2));have hw3:=hw2.trans (hb3.mono hw2.size);clear kA kB hb1 hb2 h0w hw1 hw1' hal hw2;go_upto_region 2 with fail
 rw[←hW3];replace hW3:=qH hW3;have hb4:=(Below.refl W3.heap.size W3).alloc (Nat.le_refl _) (.cells #[.int .i64 1,.int .i64 0] 3);have HP4:=qH (HPm.out _ _ _ (hA1.out _ hb4).adv (ints2 (heap_alloc_new W3 (.cells #[.int .i64 1,.int .i64 0] 3))));go_wp2_with fail
 refine HP4.out.mono ?_;rintro e w5 ⟨a3,c3,rfl,hr3,hb5⟩;have hb35:=btt hb4 hb5;have hb6:=(Below.refl w5.heap.size w5).alloc (Nat.le_refl _) (.cells #[.int .i64 2,.slice a3 1 c3] 24);obtain⟨W6,hW6⟩:=exF (w5.alloc (.cells #[.int .i64 2,.slice a3 1 c3] 24));rw[←hW6] at hb6;have k6:W6.heap[w5.heap.size]? = some (.cells #[.int .i64 2,.slice a3 1 c3] 24):=by rw[hW6];exact heap_alloc_new _ _
 have hb36:=btt hb35 hb6;replace hr3:=qH (hr3.keep hb6);have HG6:=qH (HGr1.out W6 _ (hA1.out _ hb36));clear HP4 HPm hb4 hb5 hb35 hb6 p0 p1 q0 q1;obtain⟨⟨p0,p1⟩,-⟩:=hK.out W6 hb36;go_upto_region 3 with fail
 rw[←hW6];replace hW6:=qH hW6;go_wp2_with fail
 refine HG6.out.mono ?_;rintro e w7 ⟨r7,rfl,hr7,hb7⟩;have hb37:=btt hb36 hb7;replace k6:=(hb7.block _ (Array.getElem?_eq_some_iff.1 k6).1).trans k6;replace hr3:=qH (hr3.out.keep hb7);have HG7:=qH (HGr2.out w7 _ (hA2.out _ hb37));obtain⟨ra7,rc7,rfl⟩:=hr7.shape;replace hr7:=qH hr7;clear p0 p1 HG6 HGr1 hb36;obtain⟨-,q0,q1⟩:=hK.out w7 hb37;go_wp2_with fail
 refine HG7.out.mono ?_;rintro e w8 ⟨r8,rfl,hr8,hb8⟩;have hb38:=btt hb37 hb8;replace k6:=(hb8.block _ (Array.getElem?_eq_some_iff.1 k6).1).trans k6;replace hr3:=qH (hr3.out.keep hb8);replace hr7:=qH (hr7.out.keep hb8);obtain⟨ra8,rc8,rfl⟩:=hr8.shape;replace hr8:=qH hr8;clear q0 q1 HG7 HGr2 hb37 hb7;obtain⟨⟨p0,p1⟩,q0,q1⟩:=hK.out w8 hb38;have hl8:w2.heap.size+1 < w8.heap.size:=World.block_lt_of_cell? w8 _ q0;go_upto_region 5 with fail
 go_region_held3 (fun w'=>w'.cell? ⟨w2.heap.size+1,0,none⟩=some (.int .i64 2)∧w'.cell? ⟨w2.heap.size+1,1,none⟩=some (.slice a2 1 c2))
  (first
   | go_keep
   | (exact⟨(hb9.cell (p:=⟨w2.heap.size+1,0,none⟩) hl8).trans q0,(hb9.cell (p:=⟨w2.heap.size+1,1,none⟩) hl8).trans q1⟩)
   | (exact⟨((btt hb9 hb10).cell (p:=⟨w2.heap.size+1,0,none⟩) hl8).trans q0,((btt hb9 hb10).cell (p:=⟨w2.heap.size+1,1,none⟩) hl8).trans q1⟩))
  (first
   | (go_at_call 50;refine consOut.mono ?_;rintro e w9 ⟨sa9,sc9,rfl,hT9,hb9⟩;replace hb9:Below w8.heap.size w8 w9:=(Below.refl _ w8).drew.trans hb9)
   | (go_at_call 38;refine(symOut2 hT9 (hA2.out _ (btt hb38 hb9))).mono ?_;rintro e w10 ⟨r10,rfl,hr10,hb10⟩))
 have hb910:=btt hb9 hb10;have hb310:=btt hb38 hb910;replace k6:=(hb910.block _ (Array.getElem?_eq_some_iff.1 k6).1).trans k6;replace hr3:=qH (hr3.out.keep hb910);replace hr7:=qH (hr7.out.keep hb910);replace hr8:=qH (hr8.out.keep hb910);obtain⟨ra10,rc10,rfl⟩:=hr10.shape;replace hr10:=qH hr10;clear p0 p1 q0 q1 hb9 hb10 hb910 hb38 hT9 hl8 hb8;obtain⟨⟨p0,p1⟩,-⟩:=hK.out w10 hb310;have hl10:w2.heap.size < w10.heap.size:=World.block_lt_of_cell? w10 _ p0;go_upto_region 6 with fail
 go_region_held3 (fun w'=>w'.cell? ⟨w2.heap.size,0,none⟩=some (.int .i64 2)∧w'.cell? ⟨w2.heap.size,1,none⟩=some (.slice a1 1 c1))
  (first
   | go_keep
   | (exact⟨(hb11.cell (p:=⟨w2.heap.size,0,none⟩) hl10).trans p0,(hb11.cell (p:=⟨w2.heap.size,1,none⟩) hl10).trans p1⟩)
   | (exact⟨((btt hb11 hb12).cell (p:=⟨w2.heap.size,0,none⟩) hl10).trans p0,((btt hb11 hb12).cell (p:=⟨w2.heap.size,1,none⟩) hl10).trans p1⟩))
  (first
   | (go_at_call 50;refine consOut.mono ?_;rintro e w11 ⟨sa11,sc11,rfl,hT11,hb11⟩;replace hb11:Below w10.heap.size w10 w11:=(Below.refl _ w10).drew.trans hb11)
   | (go_at_call 38;refine(symOut1 hT11 (hA1.out _ (btt hb310 hb11))).mono ?_;rintro e w12 ⟨r12,rfl,hr12,hb12⟩))
 have hb1012:=btt hb11 hb12;have hb312:=btt hb310 hb1012;replace k6:=(hb1012.block _ (Array.getElem?_eq_some_iff.1 k6).1).trans k6;replace hr3:=qH (hr3.out.keep hb1012);replace hr7:=qH (hr7.out.keep hb1012);replace hr8:=qH (hr8.out.keep hb1012);replace hr10:=qH (hr10.out.keep hb1012);obtain⟨ra12,rc12,rfl⟩:=hr12.shape;replace hr12:=qH hr12;clear p0 p1 hb11 hb12 hb1012 hb310 hT11 hl10;have hwf:=bt hw3 hb312 hw3.size;clear hb312 hA1 hA2 hK hr1 hr2;have ⟨hb13,hI13⟩:=orbIn w12;have HO:=qH (orbOut hI13);go_upto_region 7 with fail
 go_wp2_with fail
 refine HO.out.mono ?_;rintro e w14 ⟨r14,rfl,hr14,hb14⟩;have hb1214:=btt hb13 hb14;replace k6:=(hb1214.block _ (Array.getElem?_eq_some_iff.1 k6).1).trans k6;replace hr3:=qH (hr3.out.keep hb1214);replace hr7:=qH (hr7.out.keep hb1214);replace hr8:=qH (hr8.out.keep hb1214);replace hr10:=qH (hr10.out.keep hb1214);replace hr12:=qH (hr12.out.keep hb1214);obtain⟨ra14,rc14,rfl⟩:=hr14.shape;replace hr14:=qH hr14;replace hwf:=bt hwf hb1214 hwf.size;clear hb13 hI13 hb14 hb1214 HO;go_upto_region 9 with fail
 obtain⟨W16,hW16⟩:∃W16,W16=((((w14.alloc (.cells #[.int .i64 0,.int .i64 1] 3)).alloc (.cells #[.slice (some ⟨w14.heap.size,0,none⟩) 2 2] 25)).alloc (.cells #[.int .i64 0,.int .i64 1] 3)).alloc (.cells #[.int .i64 1,.int .i64 0] 3)).alloc
   (.cells #[.slice (some ⟨w14.heap.size+1+1,0,none⟩) 2 2,.slice (some ⟨w14.heap.size+1+1+1,0,none⟩) 2 2] 25):=⟨_,rfl⟩
 obtain⟨hb16,hI1,hI2⟩:=awRows hW16;replace hW16:=qH hW16;replace k6:=(hb16.block _ (Array.getElem?_eq_some_iff.1 k6).1).trans k6;replace hr3:=qH (hr3.out.keep hb16);replace hr7:=qH ((hr7.out.keep hb16).intss (by decide) (by decide));replace hr8:=qH ((hr8.out.keep hb16).intss (by decide) (by decide));replace hr10:=qH ((hr10.out.keep hb16).intss (by decide) (by decide));replace hr12:=qH ((hr12.out.keep hb16).intss (by decide) (by decide));replace hr14:=qH ((hr14.out.keep hb16).intss (by decide) (by decide));replace hwf:=bt hwf hb16 hwf.size;clear hb16;rw[←hW16.out];refine regAwake9 k6 hr3.out hr7.out hr8.out hr10.out hr12.out hr14.out hI1 hI2 ?_;intro y16 y17 y42 y43 y44 y45 W hG _ _ _ _ _ _;have hbf:=bt hwf hG hwf.size;clear hr3 hr7 hr8 hr10 hr12 hr14 hI1 hI2 hwf;go_wp2;go_ret;exact⟨rfl,hbf⟩
end Go.Proofs.YtmikofeildnpdaaGreat
