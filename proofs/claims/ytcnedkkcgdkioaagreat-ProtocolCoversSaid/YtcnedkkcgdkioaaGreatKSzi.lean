/- Texts of this claim, put together: PW0. -/
import Derived.Test.YtcnedkkcgdkioaaGreatKSzh

set_option maxRecDepth 100000
set_option maxHeartbeats 12800000
namespace Go.Proofs.YtcnedkkcgdkioaaGreat
open Go.RowKit
section
variable {P:Program} {ops:Array Oper} {F:(Nat->Value)->Act} {Φ:List (World->Value->Prop)} {R:World->World->Prop} {G:(Nat->Bool)->(Nat->Value)->World->Prop} {Q:Exit->Act->World->Prop} {i:Nat} {o:Oper}
theorem StepG.mkN (g t:Nat) (h:∀(ys:Nat->Value) (D:Nat->Bool) (W:World) (K:Act->World->Prop),D i=false->ClG ops D->HasG Φ D W ys (depsG o)->G D ys W->
  (∀v W',R W W'->G (addG D i) (updG ys i v) W'->phiG Φ i W' v->K (F (updG ys i v)) W')->Oper.wp P o (F ys) W K Q)
  (hg:o.guard=some (g,false):=by rfl) (ht:(ops[g]?).bind (·.dst)=some t:=by rfl) (hF:∀ys,(F ys).tmps[t]? = some (ys g):=by exact fun _=>rfl) (hp:∀W v,phiG Φ g W v->v = .bool false:=by exact fun _ _ h=>h) (hd:(depsG o).elem g=true:=by rfl):StepG P ops F Φ R G Q i o:=by
 intro D ys W K h1 h2 h3 h4 h5
 rw[if_pos (by
  have hy:=yielded_no ht ((hF ys).trans (congrArg some (hp W _ (h3.get g hd).2)));simp[Region.wanted,hg,hy])]
 exact h ys D W K h1 h2 h3 h4 h5
end
theorem kssLit4 {w:World}{b:Nat}{v0 v1 v2 v3:Value}{x0 x1 x2 x3:Jb}(h:w.heap[b]? = some (.cells #[v0,v1,v2,v3] 38)) (h0:KS 2 w v0 x0) (h1:KS 2 w v1 x1) (h2:KS 2 w v2 x2) (h3:KS 2 w v3 x3):KSS 2 w (.slice (some ⟨b,0,none⟩) 4 4) [x0,x1,x2,x3]:=by
 refine⟨_,_,b,0,rfl,fun _=>rfl,fun j hj=>?_,by simp⟩;match j,hj with
 | 0,_=>exact⟨_,box_cell h rfl,h0⟩
 | 1,_=>exact⟨_,box_cell h rfl,h1⟩
 | 2,_=>exact⟨_,box_cell h rfl,h2⟩
 | 3,_=>exact⟨_,box_cell h rfl,h3⟩
theorem kssLit2 {w:World}{b:Nat}{v0 v1:Value}{x0 x1:Jb}(h:w.heap[b]? = some (.cells #[v0,v1] 38)) (h0:KS 2 w v0 x0) (h1:KS 2 w v1 x1):KSS 2 w (.slice (some ⟨b,0,none⟩) 2 2) [x0,x1]:=by
 refine⟨_,_,b,0,rfl,fun _=>rfl,fun j hj=>?_,by simp⟩;match j,hj with
 | 0,_=>exact⟨_,box_cell h rfl,h0⟩
 | 1,_=>exact⟨_,box_cell h rfl,h1⟩
theorem exVs1:∀s∈exC1,VS s:=by unfold VS;decide
theorem exVs2:∀s∈exC2,VS s:=by unfold VS;decide
def opsAwk5:List Oper:=[⟨some 33,.move (.tmp 2),41,"law.go:37",#[],none⟩,⟨some 34,.move (.tmp 4),41,"law.go:37",#[],none⟩,⟨some 35,.binOp .add 41 (.tmp 33) (.tmp 34) 41,41,"law.go:37",#[⟨0,.data⟩,⟨1,.data⟩],none⟩,⟨some 36,.move (.tmp 6),41,"law.go:37",#[],none⟩,⟨some 37,.binOp .add 41 (.tmp 35) (.tmp 36) 41,41,"law.go:37",#[⟨2,.data⟩,⟨3,.data⟩],none⟩,⟨some 38,.move (.tmp 8),41,"law.go:37",#[],none⟩,⟨some 39,.binOp .add 41 (.tmp 37) (.tmp 38) 41,41,"law.go:37",#[⟨4,.data⟩,⟨5,.data⟩],none⟩,⟨some 40,.binOp .neq 41 (.tmp 39) (.const (.int .i64 0)) 41,4,"law.go:37",#[⟨6,.data⟩],none⟩,⟨some 41,.move (.tmp 40),4,"law.go:37",#[⟨7,.data⟩],none⟩,⟨some 42,.fieldAddr 57 (.tmp 3) 0,0,"law.go:37",#[⟨8,.guard⟩],some (8,false)⟩,⟨some 43,.load 55 (.tmp 42),55,"law.go:37",#[⟨9,.data⟩,⟨8,.guard⟩],some (8,false)⟩,⟨some 44,.call { callee:=.value (.func 54),args:=#[.const (.int .i64 2),.const (.int .i64 3)],argTypes:=#[3,3] },38,"law.go:37",#[⟨8,.chain⟩,⟨8,.guard⟩],some (8,false)⟩,⟨some 45,.call { callee:=.value (.func 54),args:=#[.const (.int .i64 2),.const (.int .i64 6)],argTypes:=#[3,3] },38,"law.go:37",#[⟨11,.chain⟩,⟨8,.guard⟩],some (8,false)⟩,⟨some 46,.call { callee:=.value (.func 54),args:=#[.const (.int .i64 4),.const (.int .i64 3)],argTypes:=#[3,3] },38,"law.go:37",#[⟨12,.chain⟩,⟨8,.guard⟩],some (8,false)⟩,⟨some 47,.call { callee:=.value (.func 54),args:=#[.const (.int .i64 7),.const (.int .i64 6)],argTypes:=#[3,3] },38,"law.go:37",#[⟨13,.chain⟩,⟨8,.guard⟩],some (8,false)⟩,⟨some 48,.buildSlice 55 4 #[(0,.tmp 44),(1,.tmp 45),(2,.tmp 46),(3,.tmp 47)],55,"law.go:37",#[⟨11,.data⟩,⟨12,.data⟩,⟨13,.data⟩,⟨14,.data⟩,⟨8,.guard⟩],some (8,false)⟩,⟨some 49,.call { callee:=.value (.func 53),args:=#[.tmp 43,.tmp 48],argTypes:=#[55,55] },4,"law.go:37",#[⟨10,.data⟩,⟨15,.data⟩,⟨14,.chain⟩,⟨8,.guard⟩],some (8,false)⟩,⟨some 50,.unOp .not 4 (.tmp 49),4,"law.go:37",#[⟨16,.data⟩,⟨8,.guard⟩],some (8,false)⟩,⟨some 51,.pick (.tmp 41) (.const (.bool true)) (.tmp 50),4,"law.go:37",#[⟨8,.data⟩,⟨17,.data⟩],none⟩,⟨some 52,.move (.tmp 51),4,"law.go:37",#[⟨18,.data⟩,⟨16,.chain⟩],none⟩,⟨some 53,.fieldAddr 57 (.tmp 5) 0,0,"law.go:37",#[⟨19,.guard⟩],some (19,false)⟩,⟨some 54,.load 55 (.tmp 53),55,"law.go:37",#[⟨20,.data⟩,⟨19,.guard⟩],some (19,false)⟩,⟨some 55,.call { callee:=.value (.func 54),args:=#[.const (.int .i64 2),.const (.int .i64 3)],argTypes:=#[3,3] },38,"law.go:37",#[⟨19,.chain⟩,⟨19,.guard⟩],some (19,false)⟩,⟨some 56,.call { callee:=.value (.func 54),args:=#[.const (.int .i64 4),.const (.int .i64 3)],argTypes:=#[3,3] },38,"law.go:37",#[⟨22,.chain⟩,⟨19,.guard⟩],some (19,false)⟩,⟨some 57,.buildSlice 55 2 #[(0,.tmp 55),(1,.tmp 56)],55,"law.go:37",#[⟨22,.data⟩,⟨23,.data⟩,⟨19,.guard⟩],some (19,false)⟩,⟨some 58,.call { callee:=.value (.func 53),args:=#[.tmp 54,.tmp 57],argTypes:=#[55,55] },4,"law.go:37",#[⟨21,.data⟩,⟨24,.data⟩,⟨23,.chain⟩,⟨19,.guard⟩],some (19,false)⟩,⟨some 59,.unOp .not 4 (.tmp 58),4,"law.go:37",#[⟨25,.data⟩,⟨19,.guard⟩],some (19,false)⟩,⟨some 60,.pick (.tmp 52) (.const (.bool true)) (.tmp 59),4,"law.go:37",#[⟨19,.data⟩,⟨26,.data⟩],none⟩]
theorem regAw5 {w:World}{x0 x1 x7 x9 x10 x11 x12 x13 x14 x15 x16 x17 x18 x19 x20 x21 x22 x23 x24 x25 x26 x27 x28 x29 x30 x31 x32 x33 x34 x35 x36 x37 x38 x39 x40 x41 x42 x43 x44 x45 x46 x47 x48 x49 x50 x51 x52 x53 x54 x55 x56 x57 x58 x59 x60:Value}{xs:List Value}{Q:Exit->Act->World->Prop}{b3 b5 c3 c5:Nat}{a3 a5:Option Addr}
  (k3:w.heap[b3]? = some (.cells #[.slice a3 4 c3] 57)) (h3:KSS 2 w (.slice a3 4 c3) exC1) (k5:w.heap[b5]? = some (.cells #[.slice a5 2 c5] 57)) (h5:KSS 2 w (.slice a5 2 c5) exC2)
  (hfin:∀(y11 y12 y13 y14 y15 y22 y23 y24:Value) (W:World),(Below w.heap.size w W)->(∃b,y11 = .slice (some ⟨b,0,none⟩) 2 2/\KS 2 W (.slice (some ⟨b,0,none⟩) 2 2) (pairX 2 3))->(∃b,y12 = .slice (some ⟨b,0,none⟩) 2 2/\KS 2 W (.slice (some ⟨b,0,none⟩) 2 2) (pairX 2 6))->(∃b,y13 = .slice (some ⟨b,0,none⟩) 2 2/\KS 2 W (.slice (some ⟨b,0,none⟩) 2 2) (pairX 4 3))->(∃b,y14 = .slice (some ⟨b,0,none⟩) 2 2/\KS 2 W (.slice (some ⟨b,0,none⟩) 2 2) (pairX 7 6))->(∃g,y15 = .slice (some ⟨g,0,none⟩) 4 4/\KSS 2 W (.slice (some ⟨g,0,none⟩) 4 4) exC1)->(∃b,y22 = .slice (some ⟨b,0,none⟩) 2 2/\KS 2 W (.slice (some ⟨b,0,none⟩) 2 2) (pairX 2 3))->(∃b,y23 = .slice (some ⟨b,0,none⟩) 2 2/\KS 2 W (.slice (some ⟨b,0,none⟩) 2 2) (pairX 4 3))->(∃g,y24 = .slice (some ⟨g,0,none⟩) 2 2/\KSS 2 W (.slice (some ⟨g,0,none⟩) 2 2) exC2)->Q .normal ⟨List.toArray (x0::x1::.int .i64 0::.pointer (some ⟨b3,0,none⟩)::.int .i64 0::.pointer (some ⟨b5,0,none⟩)::.int .i64 0::x7::.int .i64 0::x9::x10::x11::x12::x13::x14::x15::x16::x17::x18::x19::x20::x21::x22::x23::x24::x25::x26::x27::x28::x29::x30::x31::x32::.int .i64 0::.int .i64 0::.int .i64 0::.int .i64 0::.int .i64 0::.int .i64 0::.int .i64 0::.bool false::.bool false::.pointer (some ⟨b3,0,none⟩)::.slice a3 4 c3::y11::y12::y13::y14::y15::.bool true::.bool false::.bool false::.bool false::.pointer (some ⟨b5,0,none⟩)::.slice a5 2 c5::y22::y23::y24::.bool true::.bool false::.bool false::xs),[]⟩ W) :
  (Code.region 5 opsAwk5.toArray true).wp Tryz.prog Q ⟨List.toArray (x0::x1::.int .i64 0::.pointer (some ⟨b3,0,none⟩)::.int .i64 0::.pointer (some ⟨b5,0,none⟩)::.int .i64 0::x7::.int .i64 0::x9::x10::x11::x12::x13::x14::x15::x16::x17::x18::x19::x20::x21::x22::x23::x24::x25::x26::x27::x28::x29::x30::x31::x32::x33::x34::x35::x36::x37::x38::x39::x40::x41::x42::x43::x44::x45::x46::x47::x48::x49::x50::x51::x52::x53::x54::x55::x56::x57::x58::x59::x60::xs),[]⟩ w:=by
 refine wp_region_sg (l:=opsAwk5) (F:=(fun ys=>⟨List.toArray (x0::x1::.int .i64 0::.pointer (some ⟨b3,0,none⟩)::.int .i64 0::.pointer (some ⟨b5,0,none⟩)::.int .i64 0::x7::.int .i64 0::x9::x10::x11::x12::x13::x14::x15::x16::x17::x18::x19::x20::x21::x22::x23::x24::x25::x26::x27::x28::x29::x30::x31::x32::ys 0::ys 1::ys 2::ys 3::ys 4::ys 5::ys 6::ys 7::ys 8::ys 9::ys 10::ys 11::ys 12::ys 13::ys 14::ys 15::ys 16::ys 17::ys 18::ys 19::ys 20::ys 21::ys 22::ys 23::ys 24::ys 25::ys 26::ys 27::xs),[]⟩)) (Φ:=[eqV (.int .i64 0),eqV (.int .i64 0),eqV (.int .i64 0),eqV (.int .i64 0),eqV (.int .i64 0),eqV (.int .i64 0),eqV (.int .i64 0),eqV (.bool false),eqV (.bool false),eqV (.pointer (some ⟨b3,0,none⟩)),eqV (.slice a3 4 c3),fun W v=>∃b,v = .slice (some ⟨b,0,none⟩) 2 2/\KS 2 W (.slice (some ⟨b,0,none⟩) 2 2) (pairX 2 3),fun W v=>∃b,v = .slice (some ⟨b,0,none⟩) 2 2/\KS 2 W (.slice (some ⟨b,0,none⟩) 2 2) (pairX 2 6),fun W v=>∃b,v = .slice (some ⟨b,0,none⟩) 2 2/\KS 2 W (.slice (some ⟨b,0,none⟩) 2 2) (pairX 4 3),fun W v=>∃b,v = .slice (some ⟨b,0,none⟩) 2 2/\KS 2 W (.slice (some ⟨b,0,none⟩) 2 2) (pairX 7 6),fun W v=>∃g,v = .slice (some ⟨g,0,none⟩) 4 4/\KSS 2 W (.slice (some ⟨g,0,none⟩) 4 4) exC1,eqV (.bool true),eqV (.bool false),eqV (.bool false),eqV (.bool false),eqV (.pointer (some ⟨b5,0,none⟩)),eqV (.slice a5 2 c5),fun W v=>∃b,v = .slice (some ⟨b,0,none⟩) 2 2/\KS 2 W (.slice (some ⟨b,0,none⟩) 2 2) (pairX 2 3),fun W v=>∃b,v = .slice (some ⟨b,0,none⟩) 2 2/\KS 2 W (.slice (some ⟨b,0,none⟩) 2 2) (pairX 4 3),fun W v=>∃g,v = .slice (some ⟨g,0,none⟩) 2 2/\KSS 2 W (.slice (some ⟨g,0,none⟩) 2 2) exC2,eqV (.bool true),eqV (.bool false),eqV (.bool false)]) (R:=(fun W W'=>Below W.heap.size W W')) (G:=(fun _ _ W=>Below w.heap.size w W)) ⟨?s0,?s1,?s2,?s3,?s4,?s5,?s6,?s7,?s8,?s9,?s10,?s11,?s12,?s13,?s14,?s15,?s16,?s17,?s18,?s19,?s20,?s21,?s22,?s23,?s24,?s25,?s26,?s27,trivial⟩ (fun i=>([x33,x34,x35,x36,x37,x38,x39,x40,x41,x42,x43,x44,x45,x46,x47,x48,x49,x50,x51,x52,x53,x54,x55,x56,x57,x58,x59,x60]:List Value).getD i undef) (by kernel_rfl) (by kernel_rfl) ⟨sE,sE,sE,sE,sE,sE,sE,sE,sE,sE,sE,fun W W' v ⟨b,e,h⟩ r=>⟨b,e,KS.keep h r⟩,fun W W' v ⟨b,e,h⟩ r=>⟨b,e,KS.keep h r⟩,fun W W' v ⟨b,e,h⟩ r=>⟨b,e,KS.keep h r⟩,fun W W' v ⟨b,e,h⟩ r=>⟨b,e,KS.keep h r⟩,fun W W' v ⟨g,e,h⟩ r=>⟨g,e,KSS.keep h r⟩,sE,sE,sE,sE,sE,sE,fun W W' v ⟨b,e,h⟩ r=>⟨b,e,KS.keep h r⟩,fun W W' v ⟨b,e,h⟩ r=>⟨b,e,KS.keep h r⟩,fun W W' v ⟨g,e,h⟩ r=>⟨g,e,KSS.keep h r⟩,sE,sE,sE,trivial⟩ ?g0 ?gx ?fin
 case s0|s1|s3|s5=>
  refine .q0 (wantU rfl) (fun _=>Below.refl _ _) (fun _ _ _ h=>h) (fun _=>rfl) fun ys W K hK=>?_;go_simp;exact hK
 case s2|s4|s6|s18|s27=>
  refine .q2 (wantU rfl) (fun _=>Below.refl _ _) (fun _ _ _ h=>h) (fun _=>rfl) rfl (fun _ _ h=>h) (fun _ _ h=>h) fun ys W K hK=>?_;dsimp [updG]
  go_simp;exact hK
 case s7|s8|s19=>
  refine .q1 (wantU rfl) (fun _=>Below.refl _ _) (fun _ _ _ h=>h) (fun _=>rfl) rfl (fun _ _ h=>h) fun ys W K hK=>?_;dsimp [updG]
  go_simp;exact hK
 case s9|s20=>
  refine .q0 (wantF rfl rfl (fun _=>rfl) (fun _ _ h=>h) rfl) (fun _=>Below.refl _ _) (fun _ _ _ h=>h) (fun _=>rfl) fun ys W K hK=>?_;go_simp;exact hK
 case s10=>
  refine StepG.mkN 8 41 (openY 9 fun y9=>fun ys D W K _ _ hd hG hK=>?_);obtain rfl:=(hd.get 9 rfl).2;dsimp [updG]
  have z0:=cell_of_one ((hG.block b3 (Array.getElem?_eq_some_iff.1 k3).1).trans k3);go_simp;exact hK _ _ (Below.refl _ _) hG rfl
 case s11=>
  refine StepG.mkN 8 41 fun ys D W K _ _ _ hG hK=>?_;go_simp;refine(pairC 2 3 W).mono ?_;rintro e W9 ⟨b,rfl,hk,hb9⟩;exact hK _ _ hb9 (btt hG hb9) ⟨b,rfl,hk⟩
 case s12=>
  refine StepG.mkN 8 41 fun ys D W K _ _ _ hG hK=>?_;go_simp;refine(pairC 2 6 W).mono ?_;rintro e W9 ⟨b,rfl,hk,hb9⟩;exact hK _ _ hb9 (btt hG hb9) ⟨b,rfl,hk⟩
 case s13=>
  refine StepG.mkN 8 41 fun ys D W K _ _ _ hG hK=>?_;go_simp;refine(pairC 4 3 W).mono ?_;rintro e W9 ⟨b,rfl,hk,hb9⟩;exact hK _ _ hb9 (btt hG hb9) ⟨b,rfl,hk⟩
 case s14=>
  refine StepG.mkN 8 41 fun ys D W K _ _ _ hG hK=>?_;go_simp;refine(pairC 7 6 W).mono ?_;rintro e W9 ⟨b,rfl,hk,hb9⟩;exact hK _ _ hb9 (btt hG hb9) ⟨b,rfl,hk⟩
 case s15=>
  refine StepG.mkN 8 41 (openY 11 fun y11=>openY 12 fun y12=>openY 13 fun y13=>openY 14 fun y14=>fun ys D W K _ _ hd hG hK=>?_);have ⟨d11,e11⟩:=hd.get 11 rfl;have ⟨d12,e12⟩:=hd.get 12 rfl;have ⟨d13,e13⟩:=hd.get 13 rfl;have ⟨d14,e14⟩:=hd.get 14 rfl;dsimp [updG]
  obtain⟨g11,rfl,j11⟩:=e11;obtain⟨g12,rfl,j12⟩:=e12;obtain⟨g13,rfl,j13⟩:=e13;obtain⟨g14,rfl,j14⟩:=e14;have hba:=(Below.refl W.heap.size W).alloc (Nat.le_refl _) (.cells #[.slice (some ⟨g11,0,none⟩) 2 2,.slice (some ⟨g12,0,none⟩) 2 2,.slice (some ⟨g13,0,none⟩) 2 2,.slice (some ⟨g14,0,none⟩) 2 2] 38);go_simp;exact hK _ _ hba (btt hG hba) ⟨_,rfl,kssLit4 (heap_alloc_new _ _) (j11.keep hba) (j12.keep hba) (j13.keep hba) (j14.keep hba)⟩
 case s16=>
  refine StepG.mkN 8 41 (openY 10 fun y10=>openY 15 fun y15=>fun ys D W K _ _ hd hG hK=>?_);obtain rfl:=(hd.get 10 rfl).2;have ⟨d15,e15⟩:=hd.get 15 rfl;dsimp [updG]
  obtain⟨g0,rfl,j0⟩:=e15;have HM:=refSameAll (h3.keep hG) j0 exVs1 exVs1;rw[decide_eq_true (rfl:exC1=exC1)] at HM;go_simp;refine HM.mono ?_;rintro e W9 ⟨rfl,hb9⟩;exact hK _ _ hb9 (btt hG hb9) rfl
 case s17|s26=>
  refine .q1 (wantF rfl rfl (fun _=>rfl) (fun _ _ h=>h) rfl) (fun _=>Below.refl _ _) (fun _ _ _ h=>h) (fun _=>rfl) rfl (fun _ _ h=>h) fun ys W K hK=>?_;dsimp [updG]
  go_simp;exact hK
 case s21=>
  refine StepG.mkN 19 52 (openY 20 fun y20=>fun ys D W K _ _ hd hG hK=>?_);obtain rfl:=(hd.get 20 rfl).2;dsimp [updG]
  have z0:=cell_of_one ((hG.block b5 (Array.getElem?_eq_some_iff.1 k5).1).trans k5);go_simp;exact hK _ _ (Below.refl _ _) hG rfl
 case s22=>
  refine StepG.mkN 19 52 fun ys D W K _ _ _ hG hK=>?_;go_simp;refine(pairC 2 3 W).mono ?_;rintro e W9 ⟨b,rfl,hk,hb9⟩;exact hK _ _ hb9 (btt hG hb9) ⟨b,rfl,hk⟩
 case s23=>
  refine StepG.mkN 19 52 fun ys D W K _ _ _ hG hK=>?_;go_simp;refine(pairC 4 3 W).mono ?_;rintro e W9 ⟨b,rfl,hk,hb9⟩;exact hK _ _ hb9 (btt hG hb9) ⟨b,rfl,hk⟩
 case s24=>
  refine StepG.mkN 19 52 (openY 22 fun y22=>openY 23 fun y23=>fun ys D W K _ _ hd hG hK=>?_);have ⟨d22,e22⟩:=hd.get 22 rfl;have ⟨d23,e23⟩:=hd.get 23 rfl;dsimp [updG]
  obtain⟨g22,rfl,j22⟩:=e22;obtain⟨g23,rfl,j23⟩:=e23;have hba:=(Below.refl W.heap.size W).alloc (Nat.le_refl _) (.cells #[.slice (some ⟨g22,0,none⟩) 2 2,.slice (some ⟨g23,0,none⟩) 2 2] 38);go_simp;exact hK _ _ hba (btt hG hba) ⟨_,rfl,kssLit2 (heap_alloc_new _ _) (j22.keep hba) (j23.keep hba)⟩
 case s25=>
  refine StepG.mkN 19 52 (openY 21 fun y21=>openY 24 fun y24=>fun ys D W K _ _ hd hG hK=>?_);obtain rfl:=(hd.get 21 rfl).2;have ⟨d24,e24⟩:=hd.get 24 rfl;dsimp [updG]
  obtain⟨g0,rfl,j0⟩:=e24;have HM:=refSameAll (h5.keep hG) j0 exVs2 exVs2;rw[decide_eq_true (rfl:exC2=exC2)] at HM;go_simp;refine HM.mono ?_;rintro e W9 ⟨rfl,hb9⟩;exact hK _ _ hb9 (btt hG hb9) rfl
 case g0=>exact below_drewN (Below.refl w.heap.size w) 1
 case gx=>exact fun _ _ _ _ _ h=>h
 case fin=>
  intro ys W hG hp;try dsimp only
  rw[(hpE hp 0:ys 0=_),(hpE hp 1:ys 1=_),(hpE hp 2:ys 2=_),(hpE hp 3:ys 3=_),(hpE hp 4:ys 4=_),(hpE hp 5:ys 5=_),(hpE hp 6:ys 6=_),(hpE hp 7:ys 7=_),(hpE hp 8:ys 8=_),(hpE hp 9:ys 9=_),(hpE hp 10:ys 10=_),(hpE hp 16:ys 16=_),(hpE hp 17:ys 17=_),(hpE hp 18:ys 18=_),(hpE hp 19:ys 19=_),(hpE hp 20:ys 20=_),(hpE hp 21:ys 21=_),(hpE hp 25:ys 25=_),(hpE hp 26:ys 26=_),(hpE hp 27:ys 27=_)];exact hfin (ys 11) (ys 12) (ys 13) (ys 14) (ys 15) (ys 22) (ys 23) (ys 24) W hG (hpE hp 11) (hpE hp 12) (hpE hp 13) (hpE hp 14) (hpE hp 15) (hpE hp 22) (hpE hp 23) (hpE hp 24)
def opsAwk9:List Oper:=[⟨some 74,.load 35 (.tmp 1),35,"law.go:42",#[],none⟩,⟨some 75,.move (.tmp 9),38,"law.go:42",#[],none⟩,⟨some 76,.slice 38 (.tmp 75) none (some (.const (.int .i64 1))) none,38,"law.go:42",#[⟨1,.data⟩],none⟩,⟨some 77,.call { callee:=.value (.func 16),args:=#[.tmp 74,.tmp 76],argTypes:=#[35,38] },49,"law.go:42",#[⟨0,.data⟩,⟨2,.data⟩],none⟩,⟨some 73,.move (.tmp 77),49,"law.go:42",#[⟨3,.data⟩],none⟩,⟨some 78,.extract (.tmp 73) 0,48,"law.go:42",#[⟨4,.data⟩],none⟩,⟨some 79,.extract (.tmp 73) 1,41,"law.go:42",#[⟨4,.data⟩,{ on:=7,ground:=Ground.gcOnly Departure.lateStores }],none⟩,⟨some 11,.assign (.tmp 78),48,"law.go:42",#[⟨5,.data⟩,⟨3,.chain⟩,⟨0,.phase⟩,⟨1,.phase⟩,⟨2,.phase⟩,⟨3,.phase⟩,⟨4,.phase⟩,⟨5,.phase⟩,⟨6,.textOnly .lateStores⟩],none⟩,⟨some 2,.assign (.tmp 79),41,"law.go:42",#[⟨6,.data⟩,⟨7,.chain⟩,⟨0,.phase⟩,⟨1,.phase⟩,⟨2,.phase⟩,⟨3,.phase⟩,⟨4,.phase⟩,⟨5,.phase⟩,⟨6,.phase⟩,⟨7,.phase⟩],none⟩]
theorem regAw9 {w:World}{x0 x2 x3 x4 x5 x6 x7 x8 x10 x11 x12 x13 x14 x15 x16 x17 x18 x19 x20 x21 x22 x23 x24 x25 x26 x27 x28 x29 x30 x31 x32 x33 x34 x35 x36 x37 x38 x39 x40 x41 x42 x43 x44 x45 x46 x47 x48 x49 x50 x51 x52 x53 x54 x55 x56 x57 x58 x59 x60 x61 x62 x63 x64 x65 x66 x67 x68 x69 x70 x71 x72 x73 x74 x75 x76 x77 x78 x79:Value}{xs:List Value}{Q:Exit->Act->World->Prop}{b1 f9:Nat}{v0 v1 v2 v3 v4 v5 v6 v7 v8 v9:Value}
  (kS:w.heap[b1]? = some (.cells #[v0,v1,v2,v3,v4,v5,v6,v7,v8,v9] 35)) (hcall:∀W,Below w.heap.size w W->Calls Tryz.prog 16 #[.agg #[v0,v1,v2,v3,v4,v5,v6,v7,v8,v9],.slice (some ⟨f9,0,none⟩) 1 5] W fun e w'=>∃u,e = .returned (.tuple #[u,.int .i64 0])/\Ints w' u [0,1]/\Below W.heap.size W w')
  (hfin:∀(y3 y4 y5 y7:Value) (W:World),(Below w.heap.size w W)->(∃u,y3 = .tuple #[u,.int .i64 0]/\Ints W u [0,1])->(∃u,y4 = .tuple #[u,.int .i64 0]/\Ints W u [0,1])->(Ints W y5 [0,1])->(Ints W y7 [0,1])->Q .normal ⟨List.toArray (x0::.pointer (some ⟨b1,0,none⟩)::.int .i64 0::x3::x4::x5::x6::x7::x8::.slice (some ⟨f9,0,none⟩) 5 5::x10::y7::x12::x13::x14::x15::x16::x17::x18::x19::x20::x21::x22::x23::x24::x25::x26::x27::x28::x29::x30::x31::x32::x33::x34::x35::x36::x37::x38::x39::x40::x41::x42::x43::x44::x45::x46::x47::x48::x49::x50::x51::x52::x53::x54::x55::x56::x57::x58::x59::x60::x61::x62::x63::x64::x65::x66::x67::x68::x69::x70::x71::x72::y4::.agg #[v0,v1,v2,v3,v4,v5,v6,v7,v8,v9]::.slice (some ⟨f9,0,none⟩) 5 5::.slice (some ⟨f9,0,none⟩) 1 5::y3::y5::.int .i64 0::xs),[]⟩ W) :
  (Code.region 9 opsAwk9.toArray true).wp Tryz.prog Q ⟨List.toArray (x0::.pointer (some ⟨b1,0,none⟩)::x2::x3::x4::x5::x6::x7::x8::.slice (some ⟨f9,0,none⟩) 5 5::x10::x11::x12::x13::x14::x15::x16::x17::x18::x19::x20::x21::x22::x23::x24::x25::x26::x27::x28::x29::x30::x31::x32::x33::x34::x35::x36::x37::x38::x39::x40::x41::x42::x43::x44::x45::x46::x47::x48::x49::x50::x51::x52::x53::x54::x55::x56::x57::x58::x59::x60::x61::x62::x63::x64::x65::x66::x67::x68::x69::x70::x71::x72::x73::x74::x75::x76::x77::x78::x79::xs),[]⟩ w:=by
 refine wp_region_sg (l:=opsAwk9) (F:=(fun ys=>⟨List.toArray (x0::.pointer (some ⟨b1,0,none⟩)::ys 8::x3::x4::x5::x6::x7::x8::.slice (some ⟨f9,0,none⟩) 5 5::x10::ys 7::x12::x13::x14::x15::x16::x17::x18::x19::x20::x21::x22::x23::x24::x25::x26::x27::x28::x29::x30::x31::x32::x33::x34::x35::x36::x37::x38::x39::x40::x41::x42::x43::x44::x45::x46::x47::x48::x49::x50::x51::x52::x53::x54::x55::x56::x57::x58::x59::x60::x61::x62::x63::x64::x65::x66::x67::x68::x69::x70::x71::x72::ys 4::ys 0::ys 1::ys 2::ys 3::ys 5::ys 6::xs),[]⟩)) (Φ:=[eqV (.agg #[v0,v1,v2,v3,v4,v5,v6,v7,v8,v9]),eqV (.slice (some ⟨f9,0,none⟩) 5 5),eqV (.slice (some ⟨f9,0,none⟩) 1 5),fun W v=>∃u,v = .tuple #[u,.int .i64 0]/\Ints W u [0,1],fun W v=>∃u,v = .tuple #[u,.int .i64 0]/\Ints W u [0,1],fun W v=>Ints W v [0,1],eqV (.int .i64 0),fun W v=>Ints W v [0,1],eqV (.int .i64 0)]) (R:=(fun W W'=>Below W.heap.size W W')) (G:=(fun _ _ W=>Below w.heap.size w W)) ⟨?s0,?s1,?s2,?s3,?s4,?s5,?s6,?s7,?s8,trivial⟩ (fun i=>([x74,x75,x76,x77,x73,x78,x79,x11,x2]:List Value).getD i undef) (by kernel_rfl) (by kernel_rfl) ⟨sE,sE,sE,fun W W' v ⟨u,e,h⟩ r=>⟨u,e,Ints.keep h r⟩,fun W W' v ⟨u,e,h⟩ r=>⟨u,e,Ints.keep h r⟩,fun W W' v h r=>Ints.keep h r,sE,fun W W' v h r=>Ints.keep h r,sE,trivial⟩ ?g0 ?gx ?fin
 case s0=>
  refine StepG.mk rfl fun ys D W K _ _ _ hG hK=>?_;have z0:=box_cell (j:=0) ((hG.block b1 (Array.getElem?_eq_some_iff.1 kS).1).trans kS) rfl;have z1:=box_cell (j:=1) ((hG.block b1 (Array.getElem?_eq_some_iff.1 kS).1).trans kS) rfl;have z2:=box_cell (j:=2) ((hG.block b1 (Array.getElem?_eq_some_iff.1 kS).1).trans kS) rfl;have z3:=box_cell (j:=3) ((hG.block b1 (Array.getElem?_eq_some_iff.1 kS).1).trans kS) rfl;have z4:=box_cell (j:=4) ((hG.block b1 (Array.getElem?_eq_some_iff.1 kS).1).trans kS) rfl;have z5:=box_cell (j:=5) ((hG.block b1 (Array.getElem?_eq_some_iff.1 kS).1).trans kS) rfl;have z6:=box_cell (j:=6) ((hG.block b1 (Array.getElem?_eq_some_iff.1 kS).1).trans kS) rfl;have z7:=box_cell (j:=7) ((hG.block b1 (Array.getElem?_eq_some_iff.1 kS).1).trans kS) rfl;have z8:=box_cell (j:=8) ((hG.block b1 (Array.getElem?_eq_some_iff.1 kS).1).trans kS) rfl;have z9:=box_cell (j:=9) ((hG.block b1 (Array.getElem?_eq_some_iff.1 kS).1).trans kS) rfl;go_simp;exact hK _ _ (Below.refl _ _) hG rfl
 case s1=>
  refine .q0 (wantU rfl) (fun _=>Below.refl _ _) (fun _ _ _ h=>h) (fun _=>rfl) fun ys W K hK=>?_;go_simp;exact hK
 case s2|s8=>
  refine .q1 (wantU rfl) (fun _=>Below.refl _ _) (fun _ _ _ h=>h) (fun _=>rfl) rfl (fun _ _ h=>h) fun ys W K hK=>?_;dsimp [updG]
  go_simp;exact hK
 case s3=>
  refine StepG.mk rfl (openY 0 fun y0=>openY 2 fun y2=>fun ys D W K _ _ hd hG hK=>?_);obtain rfl:=(hd.get 0 rfl).2;obtain rfl:=(hd.get 2 rfl).2;dsimp [updG]
  go_simp;refine(hcall W hG).mono ?_;rintro e W9 ⟨u,rfl,hi,hb9⟩;exact hK _ _ hb9 (btt hG hb9) ⟨u,rfl,hi⟩
 case s4=>
  refine StepG.mk rfl (openY 3 fun y3=>fun ys D W K _ _ hd hG hK=>?_);have ⟨d3,e3⟩:=hd.get 3 rfl;dsimp [updG]
  obtain⟨u,rfl,hi⟩:=e3;go_simp;exact hK _ _ (Below.refl _ _) hG ⟨u,rfl,hi⟩
 case s5=>
  refine StepG.mk rfl (openY 4 fun y4=>fun ys D W K _ _ hd hG hK=>?_);have ⟨d4,e4⟩:=hd.get 4 rfl;dsimp [updG]
  obtain⟨u,rfl,hi⟩:=e4;go_simp;exact hK _ _ (Below.refl _ _) hG hi
 case s6=>
  refine StepG.mk rfl (openY 4 fun y4=>fun ys D W K _ _ hd hG hK=>?_);have ⟨d4,e4⟩:=hd.get 4 rfl;dsimp [updG]
  obtain⟨u,rfl,hi⟩:=e4;go_simp;exact hK _ _ (Below.refl _ _) hG rfl
 case s7=>
  refine StepG.mk rfl (openY 5 fun y5=>fun ys D W K _ _ hd hG hK=>?_);have ⟨d5,e5⟩:=hd.get 5 rfl;dsimp [updG]
  have hi:=e5;go_simp;exact hK _ _ (Below.refl _ _) hG hi
 case g0=>exact below_drewN (Below.refl w.heap.size w) 1
 case gx=>exact fun _ _ _ _ _ h=>h
 case fin=>
  intro ys W hG hp;try dsimp only
  rw[(hpE hp 0:ys 0=_),(hpE hp 1:ys 1=_),(hpE hp 2:ys 2=_),(hpE hp 6:ys 6=_),(hpE hp 8:ys 8=_)];exact hfin (ys 3) (ys 4) (ys 5) (ys 7) W hG (hpE hp 3) (hpE hp 4) (hpE hp 5) (hpE hp 7)
def opsAwl10:List Oper:=[⟨some 81,.load 35 (.tmp 1),35,"law.go:43",#[],none⟩,⟨some 82,.call { callee:=.value (.func 54),args:=#[.const (.int .i64 4),.const (.int .i64 3)],argTypes:=#[3,3] },38,"law.go:43",#[],none⟩,⟨some 83,.call { callee:=.value (.func 16),args:=#[.tmp 81,.tmp 82],argTypes:=#[35,38] },49,"law.go:43",#[⟨0,.data⟩,⟨1,.data⟩,⟨1,.chain⟩],none⟩,⟨some 80,.move (.tmp 83),49,"law.go:43",#[⟨2,.data⟩],none⟩,⟨some 84,.extract (.tmp 80) 0,48,"law.go:43",#[⟨3,.data⟩],none⟩,⟨some 85,.extract (.tmp 80) 1,41,"law.go:43",#[⟨3,.data⟩,{ on:=6,ground:=Ground.gcOnly Departure.lateStores }],none⟩,⟨some 12,.assign (.tmp 84),48,"law.go:43",#[⟨4,.data⟩,⟨2,.chain⟩,⟨0,.phase⟩,⟨1,.phase⟩,⟨2,.phase⟩,⟨3,.phase⟩,⟨4,.phase⟩,⟨5,.textOnly .lateStores⟩],none⟩,⟨some 4,.assign (.tmp 85),41,"law.go:43",#[⟨5,.data⟩,⟨6,.chain⟩,⟨0,.phase⟩,⟨1,.phase⟩,⟨2,.phase⟩,⟨3,.phase⟩,⟨4,.phase⟩,⟨5,.phase⟩,⟨6,.phase⟩],none⟩]
theorem regAw10 {w:World}{x0 x2 x3 x4 x5 x6 x7 x8 x9 x10 x11 x12 x13 x14 x15 x16 x17 x18 x19 x20 x21 x22 x23 x24 x25 x26 x27 x28 x29 x30 x31 x32 x33 x34 x35 x36 x37 x38 x39 x40 x41 x42 x43 x44 x45 x46 x47 x48 x49 x50 x51 x52 x53 x54 x55 x56 x57 x58 x59 x60 x61 x62 x63 x64 x65 x66 x67 x68 x69 x70 x71 x72 x73 x74 x75 x76 x77 x78 x79 x80 x81 x82 x83 x84 x85:Value}{xs:List Value}{Q:Exit->Act->World->Prop}{b1:Nat}{v0 v1 v2 v3 v4 v5 v6 v7 v8 v9:Value}
  (kS:w.heap[b1]? = some (.cells #[v0,v1,v2,v3,v4,v5,v6,v7,v8,v9] 35)) (hcall:∀W,Below w.heap.size w W->∀b,KS 2 W (.slice (some ⟨b,0,none⟩) 2 2) (pairX 4 3)->Calls Tryz.prog 16 #[.agg #[v0,v1,v2,v3,v4,v5,v6,v7,v8,v9],.slice (some ⟨b,0,none⟩) 2 2] W fun e w'=>∃u,e = .returned (.tuple #[u,.int .i64 0])/\Ints w' u [0]/\Below W.heap.size W w')
  (hfin:∀(y1 y2 y3 y4 y6:Value) (W:World),(Below w.heap.size w W)->(∃b,y1 = .slice (some ⟨b,0,none⟩) 2 2/\KS 2 W (.slice (some ⟨b,0,none⟩) 2 2) (pairX 4 3))->(∃u,y2 = .tuple #[u,.int .i64 0]/\Ints W u [0])->(∃u,y3 = .tuple #[u,.int .i64 0]/\Ints W u [0])->(Ints W y4 [0])->(Ints W y6 [0])->Q .normal ⟨List.toArray (x0::.pointer (some ⟨b1,0,none⟩)::x2::x3::.int .i64 0::x5::x6::x7::x8::x9::x10::x11::y6::x13::x14::x15::x16::x17::x18::x19::x20::x21::x22::x23::x24::x25::x26::x27::x28::x29::x30::x31::x32::x33::x34::x35::x36::x37::x38::x39::x40::x41::x42::x43::x44::x45::x46::x47::x48::x49::x50::x51::x52::x53::x54::x55::x56::x57::x58::x59::x60::x61::x62::x63::x64::x65::x66::x67::x68::x69::x70::x71::x72::x73::x74::x75::x76::x77::x78::x79::y3::.agg #[v0,v1,v2,v3,v4,v5,v6,v7,v8,v9]::y1::y2::y4::.int .i64 0::xs),[]⟩ W) :
  (Code.region 10 opsAwl10.toArray true).wp Tryz.prog Q ⟨List.toArray (x0::.pointer (some ⟨b1,0,none⟩)::x2::x3::x4::x5::x6::x7::x8::x9::x10::x11::x12::x13::x14::x15::x16::x17::x18::x19::x20::x21::x22::x23::x24::x25::x26::x27::x28::x29::x30::x31::x32::x33::x34::x35::x36::x37::x38::x39::x40::x41::x42::x43::x44::x45::x46::x47::x48::x49::x50::x51::x52::x53::x54::x55::x56::x57::x58::x59::x60::x61::x62::x63::x64::x65::x66::x67::x68::x69::x70::x71::x72::x73::x74::x75::x76::x77::x78::x79::x80::x81::x82::x83::x84::x85::xs),[]⟩ w:=by
 refine wp_region_sg (l:=opsAwl10) (F:=(fun ys=>⟨List.toArray (x0::.pointer (some ⟨b1,0,none⟩)::x2::x3::ys 7::x5::x6::x7::x8::x9::x10::x11::ys 6::x13::x14::x15::x16::x17::x18::x19::x20::x21::x22::x23::x24::x25::x26::x27::x28::x29::x30::x31::x32::x33::x34::x35::x36::x37::x38::x39::x40::x41::x42::x43::x44::x45::x46::x47::x48::x49::x50::x51::x52::x53::x54::x55::x56::x57::x58::x59::x60::x61::x62::x63::x64::x65::x66::x67::x68::x69::x70::x71::x72::x73::x74::x75::x76::x77::x78::x79::ys 3::ys 0::ys 1::ys 2::ys 4::ys 5::xs),[]⟩)) (Φ:=[eqV (.agg #[v0,v1,v2,v3,v4,v5,v6,v7,v8,v9]),fun W v=>∃b,v = .slice (some ⟨b,0,none⟩) 2 2/\KS 2 W (.slice (some ⟨b,0,none⟩) 2 2) (pairX 4 3),fun W v=>∃u,v = .tuple #[u,.int .i64 0]/\Ints W u [0],fun W v=>∃u,v = .tuple #[u,.int .i64 0]/\Ints W u [0],fun W v=>Ints W v [0],eqV (.int .i64 0),fun W v=>Ints W v [0],eqV (.int .i64 0)]) (R:=(fun W W'=>Below W.heap.size W W')) (G:=(fun _ _ W=>Below w.heap.size w W)) ⟨?s0,?s1,?s2,?s3,?s4,?s5,?s6,?s7,trivial⟩ (fun i=>([x81,x82,x83,x80,x84,x85,x12,x4]:List Value).getD i undef) (by kernel_rfl) (by kernel_rfl) ⟨sE,fun W W' v ⟨b,e,h⟩ r=>⟨b,e,KS.keep h r⟩,fun W W' v ⟨u,e,h⟩ r=>⟨u,e,Ints.keep h r⟩,fun W W' v ⟨u,e,h⟩ r=>⟨u,e,Ints.keep h r⟩,fun W W' v h r=>Ints.keep h r,sE,fun W W' v h r=>Ints.keep h r,sE,trivial⟩ ?g0 ?gx ?fin
 case s0=>
  refine StepG.mk rfl fun ys D W K _ _ _ hG hK=>?_;have z0:=box_cell (j:=0) ((hG.block b1 (Array.getElem?_eq_some_iff.1 kS).1).trans kS) rfl;have z1:=box_cell (j:=1) ((hG.block b1 (Array.getElem?_eq_some_iff.1 kS).1).trans kS) rfl;have z2:=box_cell (j:=2) ((hG.block b1 (Array.getElem?_eq_some_iff.1 kS).1).trans kS) rfl;have z3:=box_cell (j:=3) ((hG.block b1 (Array.getElem?_eq_some_iff.1 kS).1).trans kS) rfl;have z4:=box_cell (j:=4) ((hG.block b1 (Array.getElem?_eq_some_iff.1 kS).1).trans kS) rfl;have z5:=box_cell (j:=5) ((hG.block b1 (Array.getElem?_eq_some_iff.1 kS).1).trans kS) rfl;have z6:=box_cell (j:=6) ((hG.block b1 (Array.getElem?_eq_some_iff.1 kS).1).trans kS) rfl;have z7:=box_cell (j:=7) ((hG.block b1 (Array.getElem?_eq_some_iff.1 kS).1).trans kS) rfl;have z8:=box_cell (j:=8) ((hG.block b1 (Array.getElem?_eq_some_iff.1 kS).1).trans kS) rfl;have z9:=box_cell (j:=9) ((hG.block b1 (Array.getElem?_eq_some_iff.1 kS).1).trans kS) rfl;go_simp;exact hK _ _ (Below.refl _ _) hG rfl
 case s1=>
  refine StepG.mk rfl fun ys D W K _ _ _ hG hK=>?_;go_simp;refine(pairC 4 3 W).mono ?_;rintro e W9 ⟨b,rfl,hk,hb9⟩;exact hK _ _ hb9 (btt hG hb9) ⟨b,rfl,hk⟩
 case s2=>
  refine StepG.mk rfl (openY 0 fun y0=>openY 1 fun y1=>fun ys D W K _ _ hd hG hK=>?_);obtain rfl:=(hd.get 0 rfl).2;have ⟨d1,e1⟩:=hd.get 1 rfl;dsimp [updG]
  obtain⟨b,rfl,hk⟩:=e1;go_simp;refine(hcall W hG b hk).mono ?_;rintro e W9 ⟨u,rfl,hi,hb9⟩;exact hK _ _ hb9 (btt hG hb9) ⟨u,rfl,hi⟩
 case s3=>
  refine StepG.mk rfl (openY 2 fun y2=>fun ys D W K _ _ hd hG hK=>?_);have ⟨d2,e2⟩:=hd.get 2 rfl;dsimp [updG]
  obtain⟨u,rfl,hi⟩:=e2;go_simp;exact hK _ _ (Below.refl _ _) hG ⟨u,rfl,hi⟩
 case s4=>
  refine StepG.mk rfl (openY 3 fun y3=>fun ys D W K _ _ hd hG hK=>?_);have ⟨d3,e3⟩:=hd.get 3 rfl;dsimp [updG]
  obtain⟨u,rfl,hi⟩:=e3;go_simp;exact hK _ _ (Below.refl _ _) hG hi
 case s5=>
  refine StepG.mk rfl (openY 3 fun y3=>fun ys D W K _ _ hd hG hK=>?_);have ⟨d3,e3⟩:=hd.get 3 rfl;dsimp [updG]
  obtain⟨u,rfl,hi⟩:=e3;go_simp;exact hK _ _ (Below.refl _ _) hG rfl
 case s6=>
  refine StepG.mk rfl (openY 4 fun y4=>fun ys D W K _ _ hd hG hK=>?_);have ⟨d4,e4⟩:=hd.get 4 rfl;dsimp [updG]
  have hi:=e4;go_simp;exact hK _ _ (Below.refl _ _) hG hi
 case s7=>
  refine .q1 (wantU rfl) (fun _=>Below.refl _ _) (fun _ _ _ h=>h) (fun _=>rfl) rfl (fun _ _ h=>h) fun ys W K hK=>?_;dsimp [updG]
  go_simp;exact hK
 case g0=>exact below_drewN (Below.refl w.heap.size w) 1
 case gx=>exact fun _ _ _ _ _ h=>h
 case fin=>
  intro ys W hG hp;try dsimp only
  rw[(hpE hp 0:ys 0=_),(hpE hp 5:ys 5=_),(hpE hp 7:ys 7=_)];exact hfin (ys 1) (ys 2) (ys 3) (ys 4) (ys 6) W hG (hpE hp 1) (hpE hp 2) (hpE hp 3) (hpE hp 4) (hpE hp 6)
end Go.Proofs.YtcnedkkcgdkioaaGreat
