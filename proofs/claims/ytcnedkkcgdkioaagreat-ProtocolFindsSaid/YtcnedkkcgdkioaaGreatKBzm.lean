/- Texts of this claim, put together: PW0. -/
import Derived.Test.YtcnedkkcgdkioaaGreatKBzl

set_option maxRecDepth 100000
set_option maxHeartbeats 12800000
namespace Go.Proofs.YtcnedkkcgdkioaaGreat
open Go.RowKit
section
variable {P:Program} {ops:Array Oper} {F:(Nat->Value)->Act} {Φ:List (World->Value->Prop)} {R:World->World->Prop} {G:(Nat->Bool)->(Nat->Value)->World->Prop} {Q:Exit->Act->World->Prop} {i:Nat} {o:Oper}
theorem AL.mkN (g t:Nat) (h:∀(ys:Nat->Value) (D:Nat->Bool) (W:World) (K:Act->World->Prop),D i=false->LI ops D->GN Φ D W ys (GE o)->G D ys W->
  (∀v W',R W W'->G (AP D i) (AJ ys i v) W'->DE Φ i W' v->K (F (AJ ys i v)) W')->Oper.wp P o (F ys) W K Q)
  (k:o.guard=some (g,false):=by rfl) (l:(ops[g]?).bind (·.dst)=some t:=by rfl) (f:∀ys,(F ys).tmps[t]? = some (ys g):=by exact fun _=>rfl) (p:∀W v,DE Φ g W v->v = .bool false:=by exact fun _ _ h=>h) (j:(GE o).elem g=true:=by rfl):AL P ops F Φ R G Q i o:=by
 intro D ys W K b c a d e
 rw[if_pos (by
  have y:=VI l ((f ys).trans (congrArg some (p W _ (a.get g j).2)));simp[Region.wanted,k,y])]
 exact h ys D W K b c a d e
end
theorem mO {w:World}{b:Nat}{v a c d:Value}{x e f g:Jb}(h:w.heap[b]? = some (.cells #[v,a,c,d] 38)) (k:KS 2 w v x) (l:KS 2 w a e) (m:KS 2 w c f) (n:KS 2 w d g):BT 2 w (.slice (some ⟨b,0,none⟩) 4 4) [x,e,f,g]:=by
 refine⟨_,_,b,0,rfl,fun _=>rfl,fun j p=>?_,by simp⟩;match j,p with
 | 0,_=>exact⟨_,AO h rfl,k⟩
 | 1,_=>exact⟨_,AO h rfl,l⟩
 | 2,_=>exact⟨_,AO h rfl,m⟩
 | 3,_=>exact⟨_,AO h rfl,n⟩
theorem mN {w:World}{b:Nat}{v a:Value}{x c:Jb}(h:w.heap[b]? = some (.cells #[v,a] 38)) (d:KS 2 w v x) (e:KS 2 w a c):BT 2 w (.slice (some ⟨b,0,none⟩) 2 2) [x,c]:=by
 refine⟨_,_,b,0,rfl,fun _=>rfl,fun j f=>?_,by simp⟩;match j,f with
 | 0,_=>exact⟨_,AO h rfl,d⟩
 | 1,_=>exact⟨_,AO h rfl,e⟩
theorem YH:∀s∈JE,VS s:=by unfold VS;decide
theorem YI:∀s∈JY,VS s:=by unfold VS;decide
def aP:List Oper:=[⟨some 33,.move (.tmp 2),41,"law.go:37",#[],none⟩,⟨some 34,.move (.tmp 4),41,"law.go:37",#[],none⟩,⟨some 35,.binOp .add 41 (.tmp 33) (.tmp 34) 41,41,"law.go:37",#[⟨0,.data⟩,⟨1,.data⟩],none⟩,⟨some 36,.move (.tmp 6),41,"law.go:37",#[],none⟩,⟨some 37,.binOp .add 41 (.tmp 35) (.tmp 36) 41,41,"law.go:37",#[⟨2,.data⟩,⟨3,.data⟩],none⟩,⟨some 38,.move (.tmp 8),41,"law.go:37",#[],none⟩,⟨some 39,.binOp .add 41 (.tmp 37) (.tmp 38) 41,41,"law.go:37",#[⟨4,.data⟩,⟨5,.data⟩],none⟩,⟨some 40,.binOp .neq 41 (.tmp 39) (.const (.int .i64 0)) 41,4,"law.go:37",#[⟨6,.data⟩],none⟩,⟨some 41,.move (.tmp 40),4,"law.go:37",#[⟨7,.data⟩],none⟩,⟨some 42,.fieldAddr 57 (.tmp 3) 0,0,"law.go:37",#[⟨8,.guard⟩],some (8,false)⟩,⟨some 43,.load 55 (.tmp 42),55,"law.go:37",#[⟨9,.data⟩,⟨8,.guard⟩],some (8,false)⟩,⟨some 44,.call { callee:=.value (.func 54),args:=#[.const (.int .i64 2),.const (.int .i64 3)],argTypes:=#[3,3] },38,"law.go:37",#[⟨8,.chain⟩,⟨8,.guard⟩],some (8,false)⟩,⟨some 45,.call { callee:=.value (.func 54),args:=#[.const (.int .i64 2),.const (.int .i64 6)],argTypes:=#[3,3] },38,"law.go:37",#[⟨11,.chain⟩,⟨8,.guard⟩],some (8,false)⟩,⟨some 46,.call { callee:=.value (.func 54),args:=#[.const (.int .i64 4),.const (.int .i64 3)],argTypes:=#[3,3] },38,"law.go:37",#[⟨12,.chain⟩,⟨8,.guard⟩],some (8,false)⟩,⟨some 47,.call { callee:=.value (.func 54),args:=#[.const (.int .i64 7),.const (.int .i64 6)],argTypes:=#[3,3] },38,"law.go:37",#[⟨13,.chain⟩,⟨8,.guard⟩],some (8,false)⟩,⟨some 48,.buildSlice 55 4 #[(0,.tmp 44),(1,.tmp 45),(2,.tmp 46),(3,.tmp 47)],55,"law.go:37",#[⟨11,.data⟩,⟨12,.data⟩,⟨13,.data⟩,⟨14,.data⟩,⟨8,.guard⟩],some (8,false)⟩,⟨some 49,.call { callee:=.value (.func 53),args:=#[.tmp 43,.tmp 48],argTypes:=#[55,55] },4,"law.go:37",#[⟨10,.data⟩,⟨15,.data⟩,⟨14,.chain⟩,⟨8,.guard⟩],some (8,false)⟩,⟨some 50,.unOp .not 4 (.tmp 49),4,"law.go:37",#[⟨16,.data⟩,⟨8,.guard⟩],some (8,false)⟩,⟨some 51,.pick (.tmp 41) (.const (.bool true)) (.tmp 50),4,"law.go:37",#[⟨8,.data⟩,⟨17,.data⟩],none⟩,⟨some 52,.move (.tmp 51),4,"law.go:37",#[⟨18,.data⟩,⟨16,.chain⟩],none⟩,⟨some 53,.fieldAddr 57 (.tmp 5) 0,0,"law.go:37",#[⟨19,.guard⟩],some (19,false)⟩,⟨some 54,.load 55 (.tmp 53),55,"law.go:37",#[⟨20,.data⟩,⟨19,.guard⟩],some (19,false)⟩,⟨some 55,.call { callee:=.value (.func 54),args:=#[.const (.int .i64 2),.const (.int .i64 3)],argTypes:=#[3,3] },38,"law.go:37",#[⟨19,.chain⟩,⟨19,.guard⟩],some (19,false)⟩,⟨some 56,.call { callee:=.value (.func 54),args:=#[.const (.int .i64 4),.const (.int .i64 3)],argTypes:=#[3,3] },38,"law.go:37",#[⟨22,.chain⟩,⟨19,.guard⟩],some (19,false)⟩,⟨some 57,.buildSlice 55 2 #[(0,.tmp 55),(1,.tmp 56)],55,"law.go:37",#[⟨22,.data⟩,⟨23,.data⟩,⟨19,.guard⟩],some (19,false)⟩,⟨some 58,.call { callee:=.value (.func 53),args:=#[.tmp 54,.tmp 57],argTypes:=#[55,55] },4,"law.go:37",#[⟨21,.data⟩,⟨24,.data⟩,⟨23,.chain⟩,⟨19,.guard⟩],some (19,false)⟩,⟨some 59,.unOp .not 4 (.tmp 58),4,"law.go:37",#[⟨25,.data⟩,⟨19,.guard⟩],some (19,false)⟩,⟨some 60,.pick (.tmp 52) (.const (.bool true)) (.tmp 59),4,"law.go:37",#[⟨19,.data⟩,⟨26,.data⟩],none⟩]
theorem rG {w:World}{A B x7 x9 C E I J L M N O S T U V X Y Z a0 a1 a2 a3 a4 a5 a6 a7 b' c0 c1 c2 c3 c4 c5 c6 c7 c8 c9 c' d0 d1 d2 d3 d4 d5 d6 d7 d8 d9 d' e0 e1 e2 e3 e4:Value}{xs:List Value}{Q:Exit->Act->World->Prop}{q b5 u x:Nat}{s t:Option Addr}
  (k3:w.heap[q]? = some (.cells #[.slice s 4 u] 57)) (h3:BT 2 w (.slice s 4 u) JE) (k5:w.heap[b5]? = some (.cells #[.slice t 2 x] 57)) (h5:BT 2 w (.slice t 2 x) JY)
  (g1:∀(a' b0 b1 b2 b3 b4 b6 b7:Value) (W:World),(Below w.heap.size w W)->(∃b,a' = .slice (some ⟨b,0,none⟩) 2 2/\KS 2 W (.slice (some ⟨b,0,none⟩) 2 2) (EF 2 3))->(∃b,b0 = .slice (some ⟨b,0,none⟩) 2 2/\KS 2 W (.slice (some ⟨b,0,none⟩) 2 2) (EF 2 6))->(∃b,b1 = .slice (some ⟨b,0,none⟩) 2 2/\KS 2 W (.slice (some ⟨b,0,none⟩) 2 2) (EF 4 3))->(∃b,b2 = .slice (some ⟨b,0,none⟩) 2 2/\KS 2 W (.slice (some ⟨b,0,none⟩) 2 2) (EF 7 6))->(∃g,b3 = .slice (some ⟨g,0,none⟩) 4 4/\BT 2 W (.slice (some ⟨g,0,none⟩) 4 4) JE)->(∃b,b4 = .slice (some ⟨b,0,none⟩) 2 2/\KS 2 W (.slice (some ⟨b,0,none⟩) 2 2) (EF 2 3))->(∃b,b6 = .slice (some ⟨b,0,none⟩) 2 2/\KS 2 W (.slice (some ⟨b,0,none⟩) 2 2) (EF 4 3))->(∃g,b7 = .slice (some ⟨g,0,none⟩) 2 2/\BT 2 W (.slice (some ⟨g,0,none⟩) 2 2) JY)->Q .normal ⟨List.toArray (A::B::.int .i64 0::.pointer (some ⟨q,0,none⟩)::.int .i64 0::.pointer (some ⟨b5,0,none⟩)::.int .i64 0::x7::.int .i64 0::x9::C::E::I::J::L::M::N::O::S::T::U::V::X::Y::Z::a0::a1::a2::a3::a4::a5::a6::a7::.int .i64 0::.int .i64 0::.int .i64 0::.int .i64 0::.int .i64 0::.int .i64 0::.int .i64 0::.bool false::.bool false::.pointer (some ⟨q,0,none⟩)::.slice s 4 u::a'::b0::b1::b2::b3::.bool true::.bool false::.bool false::.bool false::.pointer (some ⟨b5,0,none⟩)::.slice t 2 x::b4::b6::b7::.bool true::.bool false::.bool false::xs),[]⟩ W) :
  (Code.region 5 aP.toArray true).wp Tryz.prog Q ⟨List.toArray (A::B::.int .i64 0::.pointer (some ⟨q,0,none⟩)::.int .i64 0::.pointer (some ⟨b5,0,none⟩)::.int .i64 0::x7::.int .i64 0::x9::C::E::I::J::L::M::N::O::S::T::U::V::X::Y::Z::a0::a1::a2::a3::a4::a5::a6::a7::b'::c0::c1::c2::c3::c4::c5::c6::c7::c8::c9::c'::d0::d1::d2::d3::d4::d5::d6::d7::d8::d9::d'::e0::e1::e2::e3::e4::xs),[]⟩ w:=by
 refine GB (l:=aP) (F:=(fun y=>⟨List.toArray (A::B::.int .i64 0::.pointer (some ⟨q,0,none⟩)::.int .i64 0::.pointer (some ⟨b5,0,none⟩)::.int .i64 0::x7::.int .i64 0::x9::C::E::I::J::L::M::N::O::S::T::U::V::X::Y::Z::a0::a1::a2::a3::a4::a5::a6::a7::y 0::y 1::y 2::y 3::y 4::y 5::y 6::y 7::y 8::y 9::y 10::y 11::y 12::y 13::y 14::y 15::y 16::y 17::y 18::y 19::y 20::y 21::y 22::y 23::y 24::y 25::y 26::y 27::xs),[]⟩)) (Φ:=[AI (.int .i64 0),AI (.int .i64 0),AI (.int .i64 0),AI (.int .i64 0),AI (.int .i64 0),AI (.int .i64 0),AI (.int .i64 0),AI (.bool false),AI (.bool false),AI (.pointer (some ⟨q,0,none⟩)),AI (.slice s 4 u),fun W v=>∃b,v = .slice (some ⟨b,0,none⟩) 2 2/\KS 2 W (.slice (some ⟨b,0,none⟩) 2 2) (EF 2 3),fun W v=>∃b,v = .slice (some ⟨b,0,none⟩) 2 2/\KS 2 W (.slice (some ⟨b,0,none⟩) 2 2) (EF 2 6),fun W v=>∃b,v = .slice (some ⟨b,0,none⟩) 2 2/\KS 2 W (.slice (some ⟨b,0,none⟩) 2 2) (EF 4 3),fun W v=>∃b,v = .slice (some ⟨b,0,none⟩) 2 2/\KS 2 W (.slice (some ⟨b,0,none⟩) 2 2) (EF 7 6),fun W v=>∃g,v = .slice (some ⟨g,0,none⟩) 4 4/\BT 2 W (.slice (some ⟨g,0,none⟩) 4 4) JE,AI (.bool true),AI (.bool false),AI (.bool false),AI (.bool false),AI (.pointer (some ⟨b5,0,none⟩)),AI (.slice t 2 x),fun W v=>∃b,v = .slice (some ⟨b,0,none⟩) 2 2/\KS 2 W (.slice (some ⟨b,0,none⟩) 2 2) (EF 2 3),fun W v=>∃b,v = .slice (some ⟨b,0,none⟩) 2 2/\KS 2 W (.slice (some ⟨b,0,none⟩) 2 2) (EF 4 3),fun W v=>∃g,v = .slice (some ⟨g,0,none⟩) 2 2/\BT 2 W (.slice (some ⟨g,0,none⟩) 2 2) JY,AI (.bool true),AI (.bool false),AI (.bool false)]) (R:=(fun W m=>Below W.heap.size W m)) (G:=(fun _ _ W=>Below w.heap.size w W)) ⟨?s0,?s1,?s2,?s3,?s4,?s5,?s6,?s7,?s8,?s9,?s10,?s11,?s12,?s13,?s14,?s15,?s16,?s17,?s18,?s19,?s20,?s21,?s22,?s23,?s24,?s25,?s26,?s27,trivial⟩ (fun i=>([b',c0,c1,c2,c3,c4,c5,c6,c7,c8,c9,c',d0,d1,d2,d3,d4,d5,d6,d7,d8,d9,d',e0,e1,e2,e3,e4]:List Value).getD i undef) (by kernel_rfl) (by kernel_rfl) ⟨sE,sE,sE,sE,sE,sE,sE,sE,sE,sE,sE,fun W m v ⟨b,e,h⟩ r=>⟨b,e,KS.keep h r⟩,fun W m v ⟨b,e,h⟩ r=>⟨b,e,KS.keep h r⟩,fun W m v ⟨b,e,h⟩ r=>⟨b,e,KS.keep h r⟩,fun W m v ⟨b,e,h⟩ r=>⟨b,e,KS.keep h r⟩,fun W m v ⟨g,e,h⟩ r=>⟨g,e,BT.keep h r⟩,sE,sE,sE,sE,sE,sE,fun W m v ⟨b,e,h⟩ r=>⟨b,e,KS.keep h r⟩,fun W m v ⟨b,e,h⟩ r=>⟨b,e,KS.keep h r⟩,fun W m v ⟨g,e,h⟩ r=>⟨g,e,BT.keep h r⟩,sE,sE,sE,trivial⟩ ?g0 ?gx ?fin
 case s0|s1|s3|s5=>
  refine .q0 (CE rfl) (fun _=>wB _ _) (fun _ _ _ h=>h) (fun _=>rfl) fun y W K a=>?_;go_simp;exact a
 case s2|s4|s6|s18|s27=>
  refine .q2 (CE rfl) (fun _=>wB _ _) (fun _ _ _ h=>h) (fun _=>rfl) rfl (fun _ _ h=>h) (fun _ _ h=>h) fun y W K a=>?_;dsimp [AJ]
  go_simp;exact a
 case s7|s8|s19=>
  refine .q1 (CE rfl) (fun _=>wB _ _) (fun _ _ _ h=>h) (fun _=>rfl) rfl (fun _ _ h=>h) fun y W K a=>?_;dsimp [AJ]
  go_simp;exact a
 case s9|s20=>
  refine .q0 (eL rfl rfl (fun _=>rfl) (fun _ _ h=>h) rfl) (fun _=>wB _ _) (fun _ _ _ h=>h) (fun _=>rfl) fun y W K a=>?_;go_simp;exact a
 case s10=>
  refine AL.mkN 8 41 (AD 9 fun y9=>fun y D W K _ _ f c a=>?_);obtain rfl:=(f.get 9 rfl).2;dsimp [AJ]
  have z0:=wJ ((c.block q (wD.1 k3).1).trans k3);go_simp;exact a _ _ (wB _ _) c rfl
 case s11=>
  refine AL.mkN 8 41 fun y D W K _ _ _ c a=>?_;go_simp;refine(MA 2 3 W).mono ?_;rintro e n ⟨b,rfl,k,d⟩;exact a _ _ d (btt c d) ⟨b,rfl,k⟩
 case s12=>
  refine AL.mkN 8 41 fun y D W K _ _ _ c a=>?_;go_simp;refine(MA 2 6 W).mono ?_;rintro e n ⟨b,rfl,k,d⟩;exact a _ _ d (btt c d) ⟨b,rfl,k⟩
 case s13=>
  refine AL.mkN 8 41 fun y D W K _ _ _ c a=>?_;go_simp;refine(MA 4 3 W).mono ?_;rintro e n ⟨b,rfl,k,d⟩;exact a _ _ d (btt c d) ⟨b,rfl,k⟩
 case s14=>
  refine AL.mkN 8 41 fun y D W K _ _ _ c a=>?_;go_simp;refine(MA 7 6 W).mono ?_;rintro e n ⟨b,rfl,k,d⟩;exact a _ _ d (btt c d) ⟨b,rfl,k⟩
 case s15=>
  refine AL.mkN 8 41 (AD 11 fun a'=>AD 12 fun b0=>AD 13 fun b1=>AD 14 fun b2=>fun y D W K _ _ f c a=>?_);have ⟨g9,e5⟩:=f.get 11 rfl;have ⟨g',e6⟩:=f.get 12 rfl;have ⟨h0,e7⟩:=f.get 13 rfl;have ⟨h1,e8⟩:=f.get 14 rfl;dsimp [AJ]
  obtain⟨f3,rfl,g2⟩:=e5;obtain⟨f4,rfl,g3⟩:=e6;obtain⟨f5,rfl,g4⟩:=e7;obtain⟨f6,rfl,g5⟩:=e8;have j:=(wB W.heap.size W).alloc (wC _) (.cells #[.slice (some ⟨f3,0,none⟩) 2 2,.slice (some ⟨f4,0,none⟩) 2 2,.slice (some ⟨f5,0,none⟩) 2 2,.slice (some ⟨f6,0,none⟩) 2 2] 38);go_simp;exact a _ _ j (btt c j) ⟨_,rfl,mO (wE _ _) (g2.keep j) (g3.keep j) (g4.keep j) (g5.keep j)⟩
 case s16=>
  refine AL.mkN 8 41 (AD 10 fun h8=>AD 15 fun b3=>fun y D W K _ _ f c a=>?_);obtain rfl:=(f.get 10 rfl).2;have ⟨h2,e9⟩:=f.get 15 rfl;dsimp [AJ]
  obtain⟨f2,rfl,z⟩:=e9;have H:=UL (h3.keep c) z YH YH;rw[vZ (rfl:JE=JE)] at H;go_simp;refine H.mono ?_;rintro e n ⟨rfl,d⟩;exact a _ _ d (btt c d) rfl
 case s17|s26=>
  refine .q1 (eL rfl rfl (fun _=>rfl) (fun _ _ h=>h) rfl) (fun _=>wB _ _) (fun _ _ _ h=>h) (fun _=>rfl) rfl (fun _ _ h=>h) fun y W K a=>?_;dsimp [AJ]
  go_simp;exact a
 case s21=>
  refine AL.mkN 19 52 (AD 20 fun h9=>fun y D W K _ _ f c a=>?_);obtain rfl:=(f.get 20 rfl).2;dsimp [AJ]
  have z0:=wJ ((c.block b5 (wD.1 k5).1).trans k5);go_simp;exact a _ _ (wB _ _) c rfl
 case s22=>
  refine AL.mkN 19 52 fun y D W K _ _ _ c a=>?_;go_simp;refine(MA 2 3 W).mono ?_;rintro e n ⟨b,rfl,k,d⟩;exact a _ _ d (btt c d) ⟨b,rfl,k⟩
 case s23=>
  refine AL.mkN 19 52 fun y D W K _ _ _ c a=>?_;go_simp;refine(MA 4 3 W).mono ?_;rintro e n ⟨b,rfl,k,d⟩;exact a _ _ d (btt c d) ⟨b,rfl,k⟩
 case s24=>
  refine AL.mkN 19 52 (AD 22 fun b4=>AD 23 fun b6=>fun y D W K _ _ f c a=>?_);have ⟨h4,e'⟩:=f.get 22 rfl;have ⟨h6,f0⟩:=f.get 23 rfl;dsimp [AJ]
  obtain⟨f7,rfl,g6⟩:=e';obtain⟨f8,rfl,g7⟩:=f0;have j:=(wB W.heap.size W).alloc (wC _) (.cells #[.slice (some ⟨f7,0,none⟩) 2 2,.slice (some ⟨f8,0,none⟩) 2 2] 38);go_simp;exact a _ _ j (btt c j) ⟨_,rfl,mN (wE _ _) (g6.keep j) (g7.keep j)⟩
 case s25=>
  refine AL.mkN 19 52 (AD 21 fun h'=>AD 24 fun b7=>fun y D W K _ _ f c a=>?_);obtain rfl:=(f.get 21 rfl).2;have ⟨h7,f1⟩:=f.get 24 rfl;dsimp [AJ]
  obtain⟨f2,rfl,z⟩:=f1;have H:=UL (h5.keep c) z YI YI;rw[vZ (rfl:JY=JY)] at H;go_simp;refine H.mono ?_;rintro e n ⟨rfl,d⟩;exact a _ _ d (btt c d) rfl
 case g0=>exact wH (wB w.heap.size w) 1
 case gx=>exact fun _ _ _ _ _ h=>h
 case fin=>
  intro y W c p;try dsimp only
  rw[(AG p 0:y 0=_),(AG p 1:y 1=_),(AG p 2:y 2=_),(AG p 3:y 3=_),(AG p 4:y 4=_),(AG p 5:y 5=_),(AG p 6:y 6=_),(AG p 7:y 7=_),(AG p 8:y 8=_),(AG p 9:y 9=_),(AG p 10:y 10=_),(AG p 16:y 16=_),(AG p 17:y 17=_),(AG p 18:y 18=_),(AG p 19:y 19=_),(AG p 20:y 20=_),(AG p 21:y 21=_),(AG p 25:y 25=_),(AG p 26:y 26=_),(AG p 27:y 27=_)];exact g1 (y 11) (y 12) (y 13) (y 14) (y 15) (y 22) (y 23) (y 24) W c (AG p 11) (AG p 12) (AG p 13) (AG p 14) (AG p 15) (AG p 22) (AG p 23) (AG p 24)
def aQ:List Oper:=[⟨some 74,.load 35 (.tmp 1),35,"law.go:42",#[],none⟩,⟨some 75,.move (.tmp 9),38,"law.go:42",#[],none⟩,⟨some 76,.slice 38 (.tmp 75) none (some (.const (.int .i64 1))) none,38,"law.go:42",#[⟨1,.data⟩],none⟩,⟨some 77,.call { callee:=.value (.func 16),args:=#[.tmp 74,.tmp 76],argTypes:=#[35,38] },49,"law.go:42",#[⟨0,.data⟩,⟨2,.data⟩],none⟩,⟨some 73,.move (.tmp 77),49,"law.go:42",#[⟨3,.data⟩],none⟩,⟨some 78,.extract (.tmp 73) 0,48,"law.go:42",#[⟨4,.data⟩],none⟩,⟨some 79,.extract (.tmp 73) 1,41,"law.go:42",#[⟨4,.data⟩,{ on:=7,ground:=Ground.gcOnly Departure.lateStores }],none⟩,⟨some 11,.assign (.tmp 78),48,"law.go:42",#[⟨5,.data⟩,⟨3,.chain⟩,⟨0,.phase⟩,⟨1,.phase⟩,⟨2,.phase⟩,⟨3,.phase⟩,⟨4,.phase⟩,⟨5,.phase⟩,⟨6,.textOnly .lateStores⟩],none⟩,⟨some 2,.assign (.tmp 79),41,"law.go:42",#[⟨6,.data⟩,⟨7,.chain⟩,⟨0,.phase⟩,⟨1,.phase⟩,⟨2,.phase⟩,⟨3,.phase⟩,⟨4,.phase⟩,⟨5,.phase⟩,⟨6,.phase⟩,⟨7,.phase⟩],none⟩]
theorem rH {w:World}{H x2 x3 x4 x5 x6 x7 x8 I f4 J L M N O S T U V X Y Z a0 a1 a2 a3 a4 a5 a7 a8 a9 a' b0 b2 b3 b4 b5 b6 b8 b9 b' c0 c1 c2 c3 c4 c5 c6 c8 c9 c' d0 d1 d2 d3 d4 d5 d6 d8 d9 d' e0 e1 e2 e3 e4 e5 e6 e8 e9 e' f6 f7 f8 f9 f' g1 g2:Value}{xs:List Value}{Q:Exit->Act->World->Prop}{b1 f:Nat}{k m n q s t x z A B:Value}
  (kS:w.heap[b1]? = some (.cells #[k,m,n,q,s,t,x,z,A,B] 35)) (g7:∀W,Below w.heap.size w W->Calls Tryz.prog 16 #[.agg #[k,m,n,q,s,t,x,z,A,B],.slice (some ⟨f,0,none⟩) 1 5] W fun e w'=>∃u,e = .returned (.tuple #[u,.int .i64 0])/\AR w' u [0,1]/\Below W.heap.size W w')
  (g8:∀(y3 C y5 y7:Value) (W:World),(Below w.heap.size w W)->(∃u,y3 = .tuple #[u,.int .i64 0]/\AR W u [0,1])->(∃u,C = .tuple #[u,.int .i64 0]/\AR W u [0,1])->(AR W y5 [0,1])->(AR W y7 [0,1])->Q .normal ⟨List.toArray (H::.pointer (some ⟨b1,0,none⟩)::.int .i64 0::x3::x4::x5::x6::x7::x8::.slice (some ⟨f,0,none⟩) 5 5::I::y7::J::L::M::N::O::S::T::U::V::X::Y::Z::a0::a1::a2::a3::a4::a5::a7::a8::a9::a'::b0::b2::b3::b4::b5::b6::b8::b9::b'::c0::c1::c2::c3::c4::c5::c6::c8::c9::c'::d0::d1::d2::d3::d4::d5::d6::d8::d9::d'::e0::e1::e2::e3::e4::e5::e6::e8::e9::e'::C::.agg #[k,m,n,q,s,t,x,z,A,B]::.slice (some ⟨f,0,none⟩) 5 5::.slice (some ⟨f,0,none⟩) 1 5::y3::y5::.int .i64 0::xs),[]⟩ W) :
  (Code.region 9 aQ.toArray true).wp Tryz.prog Q ⟨List.toArray (H::.pointer (some ⟨b1,0,none⟩)::x2::x3::x4::x5::x6::x7::x8::.slice (some ⟨f,0,none⟩) 5 5::I::f4::J::L::M::N::O::S::T::U::V::X::Y::Z::a0::a1::a2::a3::a4::a5::a7::a8::a9::a'::b0::b2::b3::b4::b5::b6::b8::b9::b'::c0::c1::c2::c3::c4::c5::c6::c8::c9::c'::d0::d1::d2::d3::d4::d5::d6::d8::d9::d'::e0::e1::e2::e3::e4::e5::e6::e8::e9::e'::f6::f7::f8::f9::f'::g1::g2::xs),[]⟩ w:=by
 refine GB (l:=aQ) (F:=(fun y=>⟨List.toArray (H::.pointer (some ⟨b1,0,none⟩)::y 8::x3::x4::x5::x6::x7::x8::.slice (some ⟨f,0,none⟩) 5 5::I::y 7::J::L::M::N::O::S::T::U::V::X::Y::Z::a0::a1::a2::a3::a4::a5::a7::a8::a9::a'::b0::b2::b3::b4::b5::b6::b8::b9::b'::c0::c1::c2::c3::c4::c5::c6::c8::c9::c'::d0::d1::d2::d3::d4::d5::d6::d8::d9::d'::e0::e1::e2::e3::e4::e5::e6::e8::e9::e'::y 4::y 0::y 1::y 2::y 3::y 5::y 6::xs),[]⟩)) (Φ:=[AI (.agg #[k,m,n,q,s,t,x,z,A,B]),AI (.slice (some ⟨f,0,none⟩) 5 5),AI (.slice (some ⟨f,0,none⟩) 1 5),fun W v=>∃u,v = .tuple #[u,.int .i64 0]/\AR W u [0,1],fun W v=>∃u,v = .tuple #[u,.int .i64 0]/\AR W u [0,1],fun W v=>AR W v [0,1],AI (.int .i64 0),fun W v=>AR W v [0,1],AI (.int .i64 0)]) (R:=(fun W g=>Below W.heap.size W g)) (G:=(fun _ _ W=>Below w.heap.size w W)) ⟨?s0,?s1,?s2,?s3,?s4,?s5,?s6,?s7,?s8,trivial⟩ (fun i=>([f7,f8,f9,f',f6,g1,g2,f4,x2]:List Value).getD i undef) (by kernel_rfl) (by kernel_rfl) ⟨sE,sE,sE,fun W g v ⟨u,e,h⟩ r=>⟨u,e,AR.keep h r⟩,fun W g v ⟨u,e,h⟩ r=>⟨u,e,AR.keep h r⟩,fun W g v h r=>AR.keep h r,sE,fun W g v h r=>AR.keep h r,sE,trivial⟩ ?g0 ?gx ?fin
 case s0=>
  refine AL.mk rfl fun y D W K _ _ _ a b=>?_;have z0:=AO (j:=0) ((a.block b1 (wD.1 kS).1).trans kS) rfl;have z1:=AO (j:=1) ((a.block b1 (wD.1 kS).1).trans kS) rfl;have z2:=AO (j:=2) ((a.block b1 (wD.1 kS).1).trans kS) rfl;have z3:=AO (j:=3) ((a.block b1 (wD.1 kS).1).trans kS) rfl;have z4:=AO (j:=4) ((a.block b1 (wD.1 kS).1).trans kS) rfl;have z5:=AO (j:=5) ((a.block b1 (wD.1 kS).1).trans kS) rfl;have z6:=AO (j:=6) ((a.block b1 (wD.1 kS).1).trans kS) rfl;have z7:=AO (j:=7) ((a.block b1 (wD.1 kS).1).trans kS) rfl;have z8:=AO (j:=8) ((a.block b1 (wD.1 kS).1).trans kS) rfl;have z9:=AO (j:=9) ((a.block b1 (wD.1 kS).1).trans kS) rfl;go_simp;exact b _ _ (wB _ _) a rfl
 case s1=>
  refine .q0 (CE rfl) (fun _=>wB _ _) (fun _ _ _ h=>h) (fun _=>rfl) fun y W K b=>?_;go_simp;exact b
 case s2|s8=>
  refine .q1 (CE rfl) (fun _=>wB _ _) (fun _ _ _ h=>h) (fun _=>rfl) rfl (fun _ _ h=>h) fun y W K b=>?_;dsimp [AJ]
  go_simp;exact b
 case s3=>
  refine AL.mk rfl (AD 0 fun y0=>AD 2 fun y2=>fun y D W K _ _ d a b=>?_);obtain rfl:=(d.get 0 rfl).2;obtain rfl:=(d.get 2 rfl).2;dsimp [AJ]
  go_simp;refine(g7 W a).mono ?_;rintro e W9 ⟨u,rfl,c,f3⟩;exact b _ _ f3 (btt a f3) ⟨u,rfl,c⟩
 case s4=>
  refine AL.mk rfl (AD 3 fun y3=>fun y D W K _ _ d a b=>?_);have ⟨g',g5⟩:=d.get 3 rfl;dsimp [AJ]
  obtain⟨u,rfl,c⟩:=g5;go_simp;exact b _ _ (wB _ _) a ⟨u,rfl,c⟩
 case s5=>
  refine AL.mk rfl (AD 4 fun C=>fun y D W K _ _ d a b=>?_);have ⟨g4,E⟩:=d.get 4 rfl;dsimp [AJ]
  obtain⟨u,rfl,c⟩:=E;go_simp;exact b _ _ (wB _ _) a c
 case s6=>
  refine AL.mk rfl (AD 4 fun C=>fun y D W K _ _ d a b=>?_);have ⟨g4,E⟩:=d.get 4 rfl;dsimp [AJ]
  obtain⟨u,rfl,c⟩:=E;go_simp;exact b _ _ (wB _ _) a rfl
 case s7=>
  refine AL.mk rfl (AD 5 fun y5=>fun y D W K _ _ d a b=>?_);have ⟨h0,g6⟩:=d.get 5 rfl;dsimp [AJ]
  have c:=g6;go_simp;exact b _ _ (wB _ _) a c
 case g0=>exact wH (wB w.heap.size w) 1
 case gx=>exact fun _ _ _ _ _ h=>h
 case fin=>
  intro y W a p;try dsimp only
  rw[(AG p 0:y 0=_),(AG p 1:y 1=_),(AG p 2:y 2=_),(AG p 6:y 6=_),(AG p 8:y 8=_)];exact g8 (y 3) (y 4) (y 5) (y 7) W a (AG p 3) (AG p 4) (AG p 5) (AG p 7)
def aR:List Oper:=[⟨some 81,.load 35 (.tmp 1),35,"law.go:43",#[],none⟩,⟨some 82,.call { callee:=.value (.func 54),args:=#[.const (.int .i64 4),.const (.int .i64 3)],argTypes:=#[3,3] },38,"law.go:43",#[],none⟩,⟨some 83,.call { callee:=.value (.func 16),args:=#[.tmp 81,.tmp 82],argTypes:=#[35,38] },49,"law.go:43",#[⟨0,.data⟩,⟨1,.data⟩,⟨1,.chain⟩],none⟩,⟨some 80,.move (.tmp 83),49,"law.go:43",#[⟨2,.data⟩],none⟩,⟨some 84,.extract (.tmp 80) 0,48,"law.go:43",#[⟨3,.data⟩],none⟩,⟨some 85,.extract (.tmp 80) 1,41,"law.go:43",#[⟨3,.data⟩,{ on:=6,ground:=Ground.gcOnly Departure.lateStores }],none⟩,⟨some 12,.assign (.tmp 84),48,"law.go:43",#[⟨4,.data⟩,⟨2,.chain⟩,⟨0,.phase⟩,⟨1,.phase⟩,⟨2,.phase⟩,⟨3,.phase⟩,⟨4,.phase⟩,⟨5,.textOnly .lateStores⟩],none⟩,⟨some 4,.assign (.tmp 85),41,"law.go:43",#[⟨5,.data⟩,⟨6,.chain⟩,⟨0,.phase⟩,⟨1,.phase⟩,⟨2,.phase⟩,⟨3,.phase⟩,⟨4,.phase⟩,⟨5,.phase⟩,⟨6,.phase⟩],none⟩]
theorem rF {w:World}{J Y x3 x4 x5 x6 x7 x8 x9 L M g4 N O S T U V X Z a0 a1 a2 a3 a4 a5 a6 a7 a8 a' b0 b2 b3 b4 b5 b6 b7 b8 b9 b' c0 c1 c2 c3 c4 c5 c6 c7 c8 c' d0 d1 d2 d3 d4 d5 d6 d7 d8 d' e0 e1 e2 e3 e4 e5 e6 e7 e8 e' f0 f1 f2 f3 f4 f5 f6 f7 f8 g6 g7 g8 g9 g' h0:Value}{xs:List Value}{Q:Exit->Act->World->Prop}{b1:Nat}{m n q s t x z A B C:Value}
  (kS:w.heap[b1]? = some (.cells #[m,n,q,s,t,x,z,A,B,C] 35)) (h7:∀W,Below w.heap.size w W->∀b,KS 2 W (.slice (some ⟨b,0,none⟩) 2 2) (EF 4 3)->Calls Tryz.prog 16 #[.agg #[m,n,q,s,t,x,z,A,B,C],.slice (some ⟨b,0,none⟩) 2 2] W fun e w'=>∃u,e = .returned (.tuple #[u,.int .i64 0])/\AR w' u [0]/\Below W.heap.size W w')
  (h8:∀(y1 y2 E y4 y6:Value) (W:World),(Below w.heap.size w W)->(∃b,y1 = .slice (some ⟨b,0,none⟩) 2 2/\KS 2 W (.slice (some ⟨b,0,none⟩) 2 2) (EF 4 3))->(∃u,y2 = .tuple #[u,.int .i64 0]/\AR W u [0])->(∃u,E = .tuple #[u,.int .i64 0]/\AR W u [0])->(AR W y4 [0])->(AR W y6 [0])->Q .normal ⟨List.toArray (J::.pointer (some ⟨b1,0,none⟩)::Y::x3::.int .i64 0::x5::x6::x7::x8::x9::L::M::y6::N::O::S::T::U::V::X::Z::a0::a1::a2::a3::a4::a5::a6::a7::a8::a'::b0::b2::b3::b4::b5::b6::b7::b8::b9::b'::c0::c1::c2::c3::c4::c5::c6::c7::c8::c'::d0::d1::d2::d3::d4::d5::d6::d7::d8::d'::e0::e1::e2::e3::e4::e5::e6::e7::e8::e'::f0::f1::f2::f3::f4::f5::f6::f7::f8::E::.agg #[m,n,q,s,t,x,z,A,B,C]::y1::y2::y4::.int .i64 0::xs),[]⟩ W) :
  (Code.region 10 aR.toArray true).wp Tryz.prog Q ⟨List.toArray (J::.pointer (some ⟨b1,0,none⟩)::Y::x3::x4::x5::x6::x7::x8::x9::L::M::g4::N::O::S::T::U::V::X::Z::a0::a1::a2::a3::a4::a5::a6::a7::a8::a'::b0::b2::b3::b4::b5::b6::b7::b8::b9::b'::c0::c1::c2::c3::c4::c5::c6::c7::c8::c'::d0::d1::d2::d3::d4::d5::d6::d7::d8::d'::e0::e1::e2::e3::e4::e5::e6::e7::e8::e'::f0::f1::f2::f3::f4::f5::f6::f7::f8::g6::g7::g8::g9::g'::h0::xs),[]⟩ w:=by
 refine GB (l:=aR) (F:=(fun y=>⟨List.toArray (J::.pointer (some ⟨b1,0,none⟩)::Y::x3::y 7::x5::x6::x7::x8::x9::L::M::y 6::N::O::S::T::U::V::X::Z::a0::a1::a2::a3::a4::a5::a6::a7::a8::a'::b0::b2::b3::b4::b5::b6::b7::b8::b9::b'::c0::c1::c2::c3::c4::c5::c6::c7::c8::c'::d0::d1::d2::d3::d4::d5::d6::d7::d8::d'::e0::e1::e2::e3::e4::e5::e6::e7::e8::e'::f0::f1::f2::f3::f4::f5::f6::f7::f8::y 3::y 0::y 1::y 2::y 4::y 5::xs),[]⟩)) (Φ:=[AI (.agg #[m,n,q,s,t,x,z,A,B,C]),fun W v=>∃b,v = .slice (some ⟨b,0,none⟩) 2 2/\KS 2 W (.slice (some ⟨b,0,none⟩) 2 2) (EF 4 3),fun W v=>∃u,v = .tuple #[u,.int .i64 0]/\AR W u [0],fun W v=>∃u,v = .tuple #[u,.int .i64 0]/\AR W u [0],fun W v=>AR W v [0],AI (.int .i64 0),fun W v=>AR W v [0],AI (.int .i64 0)]) (R:=(fun W g=>Below W.heap.size W g)) (G:=(fun _ _ W=>Below w.heap.size w W)) ⟨?s0,?s1,?s2,?s3,?s4,?s5,?s6,?s7,trivial⟩ (fun i=>([g7,g8,g9,g6,g',h0,g4,x4]:List Value).getD i undef) (by kernel_rfl) (by kernel_rfl) ⟨sE,fun W g v ⟨b,e,h⟩ r=>⟨b,e,KS.keep h r⟩,fun W g v ⟨u,e,h⟩ r=>⟨u,e,AR.keep h r⟩,fun W g v ⟨u,e,h⟩ r=>⟨u,e,AR.keep h r⟩,fun W g v h r=>AR.keep h r,sE,fun W g v h r=>AR.keep h r,sE,trivial⟩ ?g0 ?gx ?fin
 case s0=>
  refine AL.mk rfl fun y D W K _ _ _ a c=>?_;have z0:=AO (j:=0) ((a.block b1 (wD.1 kS).1).trans kS) rfl;have z1:=AO (j:=1) ((a.block b1 (wD.1 kS).1).trans kS) rfl;have z2:=AO (j:=2) ((a.block b1 (wD.1 kS).1).trans kS) rfl;have z3:=AO (j:=3) ((a.block b1 (wD.1 kS).1).trans kS) rfl;have z4:=AO (j:=4) ((a.block b1 (wD.1 kS).1).trans kS) rfl;have z5:=AO (j:=5) ((a.block b1 (wD.1 kS).1).trans kS) rfl;have z6:=AO (j:=6) ((a.block b1 (wD.1 kS).1).trans kS) rfl;have z7:=AO (j:=7) ((a.block b1 (wD.1 kS).1).trans kS) rfl;have z8:=AO (j:=8) ((a.block b1 (wD.1 kS).1).trans kS) rfl;have z9:=AO (j:=9) ((a.block b1 (wD.1 kS).1).trans kS) rfl;go_simp;exact c _ _ (wB _ _) a rfl
 case s1=>
  refine AL.mk rfl fun y D W K _ _ _ a c=>?_;go_simp;refine(MA 4 3 W).mono ?_;rintro e W9 ⟨b,rfl,I,k⟩;exact c _ _ k (btt a k) ⟨b,rfl,I⟩
 case s2=>
  refine AL.mk rfl (AD 0 fun y0=>AD 1 fun y1=>fun y D W K _ _ d a c=>?_);obtain rfl:=(d.get 0 rfl).2;have ⟨h9,h4⟩:=d.get 1 rfl;dsimp [AJ]
  obtain⟨b,rfl,I⟩:=h4;go_simp;refine(h7 W a b I).mono ?_;rintro e W9 ⟨u,rfl,f,k⟩;exact c _ _ k (btt a k) ⟨u,rfl,f⟩
 case s3=>
  refine AL.mk rfl (AD 2 fun y2=>fun y D W K _ _ d a c=>?_);have ⟨h',h5⟩:=d.get 2 rfl;dsimp [AJ]
  obtain⟨u,rfl,f⟩:=h5;go_simp;exact c _ _ (wB _ _) a ⟨u,rfl,f⟩
 case s4=>
  refine AL.mk rfl (AD 3 fun E=>fun y D W K _ _ d a c=>?_);have ⟨h3,H⟩:=d.get 3 rfl;dsimp [AJ]
  obtain⟨u,rfl,f⟩:=H;go_simp;exact c _ _ (wB _ _) a f
 case s5=>
  refine AL.mk rfl (AD 3 fun E=>fun y D W K _ _ d a c=>?_);have ⟨h3,H⟩:=d.get 3 rfl;dsimp [AJ]
  obtain⟨u,rfl,f⟩:=H;go_simp;exact c _ _ (wB _ _) a rfl
 case s6=>
  refine AL.mk rfl (AD 4 fun y4=>fun y D W K _ _ d a c=>?_);have ⟨i0,h6⟩:=d.get 4 rfl;dsimp [AJ]
  have f:=h6;go_simp;exact c _ _ (wB _ _) a f
 case s7=>
  refine .q1 (CE rfl) (fun _=>wB _ _) (fun _ _ _ h=>h) (fun _=>rfl) rfl (fun _ _ h=>h) fun y W K c=>?_;dsimp [AJ]
  go_simp;exact c
 case g0=>exact wH (wB w.heap.size w) 1
 case gx=>exact fun _ _ _ _ _ h=>h
 case fin=>
  intro y W a p;try dsimp only
  rw[(AG p 0:y 0=_),(AG p 5:y 5=_),(AG p 7:y 7=_)];exact h8 (y 1) (y 2) (y 3) (y 4) (y 6) W a (AG p 1) (AG p 2) (AG p 3) (AG p 4) (AG p 6)
end Go.Proofs.YtcnedkkcgdkioaaGreat
