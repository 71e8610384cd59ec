/- Texts of this claim, put together: YS0 YS YU YV YV1 YX YX1 YX2 YZ. -/
import Derived.Test.YtmikofeildnpdaaGreatKZzh
import Derived.Test.YtmikofeildnpdaaGreatKZzg

set_option maxRecDepth 100000
set_option maxHeartbeats 12800000
namespace Go.Proofs.YtmikofeildnpdaaGreat
open Go.RowKit
theorem TskO.otherP {w w':World}{r:Value}{n ins outs:Int}{cs:List Cs}(h:TskO w r n ins outs cs) (hx:KeepX 66 w w'):TskO w' r n ins outs cs:=by
 obtain⟨sv,h1,h2,h3⟩:=h;exact⟨sv,h1,h2.other (E':=66) ECs.stabP (by decide) hx,h3⟩
theorem OwAdv.otherP {w w':World}{v:Value}{n:Int}{ss:List (List (List Int))}(h:OwAdv w v n ss) (hx:KeepX 66 w w'):OwAdv w' v n ss:=by
 obtain⟨sv,h1,h2,h3⟩:=h;exact⟨sv,h1,h2.other (E':=66) (ESt.stab (by decide)) (by decide) hx,h3⟩
theorem TskO.taskV {w:World}{r:Value}{n ins outs:Int}{cs:List Cs}(h:TskO w r n ins outs cs):TaskV w r n ins outs cs:=by
 obtain⟨sv,h1,h2,h3⟩:=h;exact⟨sv,h1,h3 _ _ h2⟩
def oPr7_0:Oper:=⟨some 23,.fieldAddr 66 (.tmp 2) 0,0,"ref.go:113",#[],none⟩
def oPr7_1:Oper:=⟨some 24,.load 64 (.tmp 23),64,"ref.go:113",#[⟨0,.data⟩],none⟩
def oPr7_2:Oper:=⟨some 25,.move (.tmp 1),25,"ref.go:113",#[],none⟩
def oPr7_3:Oper:=⟨some 26,.call { callee:=.value (.func 78),args:=#[.tmp 24,.tmp 25],argTypes:=#[64,25] },64,"ref.go:113",#[⟨1,.data⟩,⟨2,.data⟩],none⟩
def oPr7_4:Oper:=⟨some 27,.fieldAddr 66 (.tmp 2) 1,0,"ref.go:113",#[],none⟩
def oPr7_5:Oper:=⟨some 28,.load 24 (.tmp 27),24,"ref.go:113",#[⟨4,.data⟩],none⟩
def oPr7_6:Oper:=⟨some 29,.move (.tmp 1),25,"ref.go:113",#[],none⟩
def oPr7_7:Oper:=⟨some 30,.call { callee:=.value (.func 54),args:=#[.tmp 28,.tmp 29],argTypes:=#[24,25] },24,"ref.go:113",#[⟨5,.data⟩,⟨6,.data⟩,⟨3,.chain⟩],none⟩
def oPr7_8:Oper:=⟨some 31,.fieldAddr 66 (.tmp 2) 2,0,"ref.go:113",#[],none⟩
def oPr7_9:Oper:=⟨some 32,.load 3 (.tmp 31),3,"ref.go:113",#[⟨8,.data⟩],none⟩
def oPr7_10:Oper:=⟨some 33,.build 66 #[(0,.tmp 26),(1,.tmp 30),(2,.tmp 32)],66,"ref.go:113",#[⟨3,.data⟩,⟨7,.data⟩,⟨9,.data⟩],none⟩
def oPr7_11:Oper:=⟨none,.store 66 (.tmp 4) (.tmp 33),0,"ref.go:113",#[⟨10,.data⟩,⟨7,.chain⟩,⟨0,.phase⟩,⟨1,.phase⟩,⟨2,.phase⟩,⟨3,.phase⟩,⟨4,.phase⟩,⟨5,.phase⟩,⟨6,.phase⟩,⟨7,.phase⟩,⟨8,.phase⟩,⟨9,.phase⟩,⟨10,.phase⟩],none⟩
def oPr7_12:Oper:=⟨some 5,.assign (.const (.int .i64 0)),3,"ref.go:113",#[⟨11,.chain⟩,⟨0,.phase⟩,⟨1,.phase⟩,⟨2,.phase⟩,⟨3,.phase⟩,⟨4,.phase⟩,⟨5,.phase⟩,⟨6,.phase⟩,⟨7,.phase⟩,⟨8,.phase⟩,⟨9,.phase⟩,⟨10,.phase⟩,⟨11,.phase⟩],none⟩
def opsPro7:List Oper:=[oPr7_0,oPr7_1,oPr7_2,oPr7_3,oPr7_4,oPr7_5,oPr7_6,oPr7_7,oPr7_8,oPr7_9,oPr7_10,oPr7_11,oPr7_12]
theorem regPro7 {w:World}{x0 x3 x5 x6 x7 x8 x9 x10 x11 x12 x13 x14 x15 x16 x17 x18 x19 x20 x21 x22 x23 x24 x25 x26 x27 x28 x29 x30 x31 x32 x33:Value}{Q:Exit→Act→World→Prop}{b2 b4 B n sc ac ul uc:Nat}{ins outs r:Int}{sa aa ua:Option Addr}{a:List Int}{cs:List Cs}{ss:List (List (List Int))}
  (p0:w.cell? ⟨b2,0,none⟩=some (.int .i64 (n:Int))) (p1:w.cell? ⟨b2,1,none⟩=some (.int .i64 ins)) (p2:w.cell? ⟨b2,2,none⟩=some (.int .i64 outs)) (p3:w.cell? ⟨b2,3,none⟩=some (.slice sa cs.length sc)) (p4:w.cell? ⟨b2,4,none⟩=some (.int .i64 (n:Int))) (p5:w.cell? ⟨b2,5,none⟩=some (.slice aa ss.length ac)) (p6:w.cell? ⟨b2,6,none⟩=some (.int .i64 r))
  (q4:w.heap[b4]? = some (.cells #[.int .i64 0,.int .i64 0,.int .i64 0,.slice none 0 0,.int .i64 0,.slice none 0 0,.int .i64 0] 66)) (hB4:B≤b4) (hBw:B≤w.heap.size)
  (hT:TaskV w (.agg #[.int .i64 (n:Int),.int .i64 ins,.int .i64 outs,.slice sa cs.length sc]) (n:Int) ins outs cs) (hA:AdvV w (.agg #[.int .i64 (n:Int),.slice aa ss.length ac]) (n:Int) ss) (hOK:TskOK n ins outs cs) (hcm:∀c∈cs,c.2.2.length≤100000) (hWf:WfN n ss) (ha:IsP n a) (hu:Ints w (.slice ua ul uc) a)
  (hfin:∀(y3 y7 y10 _y11:Value) (W:World),(((fun i=>decide (i < 13)) 11=false→Below w.heap.size w W)∧((fun i=>decide (i < 13)) 11=true→∃ta tc xa xc,W.heap[b4]? = some (.cells #[.int .i64 (n:Int),.int .i64 ins,.int .i64 outs,.slice ta (renT a cs).length tc,.int .i64 (n:Int),.slice xa (renA a ss).length xc,.int .i64 r] 66)∧TskO W (.agg #[.int .i64 (n:Int),.int .i64 ins,.int .i64 outs,.slice ta (renT a cs).length tc]) (n:Int) ins outs (renT a cs)∧OwAdv W (.agg #[.int .i64 (n:Int),.slice xa (renA a ss).length xc]) (n:Int) (renA a ss)∧Below B w W))→(TskO W y3 (n:Int) ins outs (renT a cs))→(OwAdv W y7 (n:Int) (renA a ss))→(∃ta tc xa xc,y10 = .agg #[.int .i64 (n:Int),.int .i64 ins,.int .i64 outs,.slice ta (renT a cs).length tc,.int .i64 (n:Int),.slice xa (renA a ss).length xc,.int .i64 r]∧TskO W (.agg #[.int .i64 (n:Int),.int .i64 ins,.int .i64 outs,.slice ta (renT a cs).length tc]) (n:Int) ins outs (renT a cs)∧OwAdv W (.agg #[.int .i64 (n:Int),.slice xa (renA a ss).length xc]) (n:Int) (renA a ss))→(True)→Q .normal ⟨#[x0,.slice ua ul uc,.pointer (some ⟨b2,0,none⟩),x3,.pointer (some ⟨b4,0,none⟩),.int .i64 0,x6,x7,x8,x9,x10,x11,x12,x13,x14,x15,x16,x17,x18,x19,x20,x21,x22,.pointer (some ⟨b2,0,none⟩),.agg #[.int .i64 (n:Int),.int .i64 ins,.int .i64 outs,.slice sa cs.length sc],.slice ua ul uc,y3,.pointer (some ⟨b2,4,none⟩),.agg #[.int .i64 (n:Int),.slice aa ss.length ac],.slice ua ul uc,y7,.pointer (some ⟨b2,6,none⟩),.int .i64 r,y10],[]⟩ W) :
  (Code.region 7 opsPro7.toArray true).wp Tryz.prog Q ⟨#[x0,.slice ua ul uc,.pointer (some ⟨b2,0,none⟩),x3,.pointer (some ⟨b4,0,none⟩),x5,x6,x7,x8,x9,x10,x11,x12,x13,x14,x15,x16,x17,x18,x19,x20,x21,x22,x23,x24,x25,x26,x27,x28,x29,x30,x31,x32,x33],[]⟩ w:=by
 obtain⟨SG,hSG⟩:=exS (StepG Tryz.prog opsPro7.toArray (fun ys=>⟨#[x0,.slice ua ul uc,.pointer (some ⟨b2,0,none⟩),x3,.pointer (some ⟨b4,0,none⟩),ys 12,x6,x7,x8,x9,x10,x11,x12,x13,x14,x15,x16,x17,x18,x19,x20,x21,x22,ys 0,ys 1,ys 2,ys 3,ys 4,ys 5,ys 6,ys 7,ys 8,ys 9,ys 10],[]⟩) [eqV (.pointer (some ⟨b2,0,none⟩)),eqV (.agg #[.int .i64 (n:Int),.int .i64 ins,.int .i64 outs,.slice sa cs.length sc]),eqV (.slice ua ul uc),fun W v=>TskO W v (n:Int) ins outs (renT a cs),eqV (.pointer (some ⟨b2,4,none⟩)),eqV (.agg #[.int .i64 (n:Int),.slice aa ss.length ac]),eqV (.slice ua ul uc),fun W v=>OwAdv W v (n:Int) (renA a ss),eqV (.pointer (some ⟨b2,6,none⟩)),eqV (.int .i64 r),fun W v=>∃ta tc xa xc,v = .agg #[.int .i64 (n:Int),.int .i64 ins,.int .i64 outs,.slice ta (renT a cs).length tc,.int .i64 (n:Int),.slice xa (renA a ss).length xc,.int .i64 r]∧TskO W (.agg #[.int .i64 (n:Int),.int .i64 ins,.int .i64 outs,.slice ta (renT a cs).length tc]) (n:Int) ins outs (renT a cs)∧OwAdv W (.agg #[.int .i64 (n:Int),.slice xa (renA a ss).length xc]) (n:Int) (renA a ss),anyV,eqV (.int .i64 0)] (fun W W'=>KeepX 66 W W') (fun D _ W=>(D 11=false→Below w.heap.size w W)∧(D 11=true→∃ta tc xa xc,W.heap[b4]? = some (.cells #[.int .i64 (n:Int),.int .i64 ins,.int .i64 outs,.slice ta (renT a cs).length tc,.int .i64 (n:Int),.slice xa (renA a ss).length xc,.int .i64 r] 66)∧TskO W (.agg #[.int .i64 (n:Int),.int .i64 ins,.int .i64 outs,.slice ta (renT a cs).length tc]) (n:Int) ins outs (renT a cs)∧OwAdv W (.agg #[.int .i64 (n:Int),.slice xa (renA a ss).length xc]) (n:Int) (renA a ss)∧Below B w W)) Q)
 have st0:SG 0 oPr7_0:=by
  subst hSG;refine StepG.mk rfl fun ys D W K _ _ _ hG hK=>?_;unfold oPr7_0;obtain⟨g1,g2⟩:=hG;go_simp;exact hK _ _ (KeepX.refl _ _) ⟨g1,g2⟩ rfl
 have st1:SG 1 oPr7_1:=by
  subst hSG;refine StepG.mk rfl (openY 0 fun y0=>fun ys D W K hD hcl hd hG hK=>?_);have e0:y0=_:=(hd.get 0 rfl).2;subst e0;simp only[updG,Nat.reduceEqDiff,reduceIte];unfold oPr7_1;obtain⟨g1,g2⟩:=hG;have d11:=hcl.no (j:=11) (i:=1) rfl (by kernel_rfl) hD;have hb:=g1 d11;have c0:=cell_kept hb p0;have c1:=cell_kept hb p1;have c2:=cell_kept hb p2;have c3:=cell_kept hb p3;go_simp;exact hK _ _ (KeepX.refl _ _) ⟨g1,g2⟩ rfl
 have st2:SG 2 oPr7_2:=by
  subst hSG;refine StepG.mk rfl fun ys D W K _ _ _ hG hK=>?_;unfold oPr7_2;obtain⟨g1,g2⟩:=hG;go_simp;exact hK _ _ (KeepX.refl _ _) ⟨g1,g2⟩ rfl
 have st3:SG 3 oPr7_3:=by
  subst hSG;refine StepG.mk rfl (openY 1 fun y1=>openY 2 fun y2=>fun ys D W K hD hcl hd hG hK=>?_);have e1:y1=_:=(hd.get 1 rfl).2;have e2:y2=_:=(hd.get 2 rfl).2;subst e1 e2;simp only[updG,Nat.reduceEqDiff,reduceIte];unfold oPr7_3;obtain⟨g1,g2⟩:=hG;have d11:=hcl.no (j:=11) (i:=3) rfl (by kernel_rfl) hD;have hb:=g1 d11;have HM:=refRen11 (hT.keep hb) hOK hcm ha (hu.keep hb);go_simp;refine HM.mono ?_;rintro e W9 ⟨y,rfl,_,hO9,hb9⟩;exact hK _ _ (KeepX.below hb9) ⟨fun _=>btt hb hb9,fun h=>(by rw[show addG D 3 11=D 11 from rfl,d11] at h;cases h)⟩ hO9
 have st4:SG 4 oPr7_4:=by
  subst hSG;refine StepG.mk rfl fun ys D W K _ _ _ hG hK=>?_;unfold oPr7_4;obtain⟨g1,g2⟩:=hG;go_simp;exact hK _ _ (KeepX.refl _ _) ⟨g1,g2⟩ rfl
 have st5:SG 5 oPr7_5:=by
  subst hSG;refine StepG.mk rfl (openY 4 fun y4=>fun ys D W K hD hcl hd hG hK=>?_);have e4:y4=_:=(hd.get 4 rfl).2;subst e4;simp only[updG,Nat.reduceEqDiff,reduceIte];unfold oPr7_5;obtain⟨g1,g2⟩:=hG;have d11:=hcl.no (j:=11) (i:=5) rfl (by kernel_rfl) hD;have hb:=g1 d11;have c4:=cell_kept hb p4;have c5:=cell_kept hb p5;go_simp;exact hK _ _ (KeepX.refl _ _) ⟨g1,g2⟩ rfl
 have st6:SG 6 oPr7_6:=by
  subst hSG;refine StepG.mk rfl fun ys D W K _ _ _ hG hK=>?_;unfold oPr7_6;obtain⟨g1,g2⟩:=hG;go_simp;exact hK _ _ (KeepX.refl _ _) ⟨g1,g2⟩ rfl
 have st7:SG 7 oPr7_7:=by
  subst hSG;refine StepG.mk rfl (openY 5 fun y5=>openY 6 fun y6=>fun ys D W K hD hcl hd hG hK=>?_);have e5:y5=_:=(hd.get 5 rfl).2;have e6:y6=_:=(hd.get 6 rfl).2;subst e5 e6;simp only[updG,Nat.reduceEqDiff,reduceIte];unfold oPr7_7;obtain⟨g1,g2⟩:=hG;have d11:=hcl.no (j:=11) (i:=7) rfl (by kernel_rfl) hD;have hb:=g1 d11;have HM:=refRenamedC (hA.keep hb) hWf ha (hu.keep hb);go_simp;refine HM.mono ?_;rintro e W9 ⟨y,rfl,hO9,hb9⟩;exact hK _ _ (KeepX.below hb9) ⟨fun _=>btt hb hb9,fun h=>(by rw[show addG D 7 11=D 11 from rfl,d11] at h;cases h)⟩ hO9
 have st8:SG 8 oPr7_8:=by
  subst hSG;refine StepG.mk rfl fun ys D W K _ _ _ hG hK=>?_;unfold oPr7_8;obtain⟨g1,g2⟩:=hG;go_simp;exact hK _ _ (KeepX.refl _ _) ⟨g1,g2⟩ rfl
 have st9:SG 9 oPr7_9:=by
  subst hSG;refine StepG.mk rfl (openY 8 fun y8=>fun ys D W K hD hcl hd hG hK=>?_);have e8:y8=_:=(hd.get 8 rfl).2;subst e8;simp only[updG,Nat.reduceEqDiff,reduceIte];unfold oPr7_9;obtain⟨g1,g2⟩:=hG;have d11:=hcl.no (j:=11) (i:=9) rfl (by kernel_rfl) hD;have hb:=g1 d11;have c6:=cell_kept hb p6;go_simp;exact hK _ _ (KeepX.refl _ _) ⟨g1,g2⟩ rfl
 have st10:SG 10 oPr7_10:=by
  subst hSG;refine StepG.mk rfl (openY 3 fun y3=>openY 7 fun y7=>openY 9 fun y9=>fun ys D W K _ _ hd hG hK=>?_);obtain⟨d3,e3⟩:D 3=true∧(TskO W y3 (n:Int) ins outs (renT a cs)):=hd.get 3 rfl;obtain⟨d7,e7⟩:D 7=true∧(OwAdv W y7 (n:Int) (renA a ss)):=hd.get 7 rfl;have e9:y9=_:=(hd.get 9 rfl).2;subst e9;simp only[updG,Nat.reduceEqDiff,reduceIte];unfold oPr7_10;obtain⟨g1,g2⟩:=hG;obtain⟨sv,rfl,h2,h3⟩:=e3;obtain⟨ta,tc,rfl⟩:=h2.shape;obtain⟨av,rfl,q1,q2⟩:=e7;obtain⟨xa,xc,rfl⟩:=q1.shape;go_simp;exact hK _ _ (KeepX.refl _ _) ⟨g1,g2⟩ ⟨ta,tc,xa,xc,rfl,⟨_,rfl,h2,h3⟩,⟨_,rfl,q1,q2⟩⟩
 have st11:SG 11 oPr7_11:=by
  subst hSG;refine StepG.mk rfl (openY 10 fun y10=>fun ys D W K hD _ hd hG hK=>?_);obtain⟨d10,e10⟩:D 10=true∧(∃ta tc xa xc,y10 = .agg #[.int .i64 (n:Int),.int .i64 ins,.int .i64 outs,.slice ta (renT a cs).length tc,.int .i64 (n:Int),.slice xa (renA a ss).length xc,.int .i64 r]∧TskO W (.agg #[.int .i64 (n:Int),.int .i64 ins,.int .i64 outs,.slice ta (renT a cs).length tc]) (n:Int) ins outs (renT a cs)∧OwAdv W (.agg #[.int .i64 (n:Int),.slice xa (renA a ss).length xc]) (n:Int) (renA a ss)):=hd.get 10 rfl;simp only[updG,Nat.reduceEqDiff,reduceIte];unfold oPr7_11;obtain⟨g1,g2⟩:=hG;have hb:=g1 hD;obtain⟨ta,tc,xa,xc,rfl,hT9,hA9⟩:=e10;have k4:=(hb.block b4 (Array.getElem?_eq_some_iff.1 q4).1).trans q4;obtain⟨n0,n1,n2,n3,n4,n5,n6⟩:=boxL7 k4;obtain⟨f0,f1,f2,f3,f4,f5,f6⟩:=freeL7 k4;go_simp;refine storeEnd7 (u0:=.int .i64 (n:Int)) (u1:=.int .i64 ins) (u2:=.int .i64 outs) (u3:=.slice ta (renT a cs).length tc) (u4:=.int .i64 (n:Int)) (u5:=.slice xa (renA a ss).length xc) (u6:=.int .i64 r) k4 ?_;intro W9 hW9 hb9 hkx hk9 _ _ _ _ _ _ _;rw[←hW9];exact hK undef W9 hkx ⟨fun h=>(by cases h),fun _=>⟨ta,tc,xa,xc,hk9,hT9.otherP hkx,hA9.otherP hkx,hb9 _ _ hB4 (hb.mono hBw)⟩⟩ trivial
 have st12:SG 12 oPr7_12:=by
  subst hSG;refine StepG.mk rfl fun ys D W K _ _ _ hG hK=>?_;unfold oPr7_12;obtain⟨g1,g2⟩:=hG;go_simp;exact hK _ _ (KeepX.refl _ _) ⟨g1,g2⟩ rfl
 subst hSG;refine wp_region_sg (l:=opsPro7) ⟨st0,st1,st2,st3,st4,st5,st6,st7,st8,st9,st10,st11,st12,trivial⟩ (fun i=>([x23,x24,x25,x26,x27,x28,x29,x30,x31,x32,x33,undef,x5]:List Value).getD i undef) (by kernel_rfl) (by kernel_rfl) ⟨sE,sE,sE,fun W W' v h r=>TskO.otherP h r,sE,sE,sE,fun W W' v h r=>OwAdv.otherP h r,sE,sE,fun W W' v ⟨ta,tc,xa,xc,e,h1,h2⟩ r=>⟨ta,tc,xa,xc,e,h1.otherP r,h2.otherP r⟩,fun _ _ _ h _=>h,sE,trivial⟩ ?g0 ?gx ?fin
 case g0=>exact⟨fun _=>below_drewN (Below.refl w.heap.size w) 1,fun h=>(by cases h)⟩
 case gx=>exact fun D D' _ W h ⟨h1,h2⟩=>⟨fun q=>h1 ((h 11 (by decide)).trans q),fun q=>h2 ((h 11 (by decide)).trans q)⟩
 case fin=>
  intro ys W hG hp;try dsimp only
  rw[(hp 0 (by decide):ys 0=_),(hp 1 (by decide):ys 1=_),(hp 2 (by decide):ys 2=_),(hp 4 (by decide):ys 4=_),(hp 5 (by decide):ys 5=_),(hp 6 (by decide):ys 6=_),(hp 8 (by decide):ys 8=_),(hp 9 (by decide):ys 9=_),(hp 12 (by decide):ys 12=_)];exact hfin (ys 3) (ys 7) (ys 10) (ys 11) W hG (hp 3 (by decide)) (hp 7 (by decide)) (hp 10 (by decide)) (hp 11 (by decide))
theorem refProblemGood {w:World}{v u:Value}{n:Nat}{ins outs:Int}{cs:List Cs}{ss:List (List (List Int))}{r:Int}{a:List Int}(h:PrX w v n ins outs cs n ss r) (hu:Ints w u a) (hE:pbE n ins outs cs n ss r a=0) (ha:IsP n a) (hOK:TskOK n ins outs cs) (hcm:∀c∈cs,c.2.2.length≤100000) (hWf:WfN n ss) :
  Calls Tryz.prog 37 #[v,u] w fun e w'=>∃x,e = .returned (.tuple #[x,.int .i64 0])∧PrX w' x n ins outs (renT a cs) n (renA a ss) r∧Below w.heap.size w w':=by
 have hh:=qH h;obtain⟨sa,sc,aa,ac,rfl,hT,hA⟩:=h;obtain⟨ua,uc,hus⟩:∃ua uc,u = .slice ua a.length uc:=by obtain⟨ua,uc,_,_,h,_⟩:=hu;exact⟨ua,uc,h⟩
 subst hus;obtain⟨W1,hW1⟩:=exF ((w.alloc (.cells #[.int .i64 (n:Int),.int .i64 ins,.int .i64 outs,.slice sa cs.length sc,.int .i64 (n:Int),.slice aa ss.length ac,.int .i64 r] 66)).alloc (.cells #[.int .i64 0,.int .i64 0,.int .i64 0,.slice none 0 0,.int .i64 0,.slice none 0 0,.int .i64 0] 66));have hb1:Below w.heap.size w W1:=by rw[hW1];exact((Below.refl _ _).alloc (Nat.le_refl _) _).alloc (by simp) _
 have m0:W1.heap[w.heap.size]? = some (.cells #[.int .i64 (n:Int),.int .i64 ins,.int .i64 outs,.slice sa cs.length sc,.int .i64 (n:Int),.slice aa ss.length ac,.int .i64 r] 66):=by rw[hW1];exact(Below.heap_alloc _ _ _ (by simp)).trans (heap_alloc_new _ _)
 have m1:W1.heap[w.heap.size+1]? = some (.cells #[.int .i64 0,.int .i64 0,.int .i64 0,.slice none 0 0,.int .i64 0,.slice none 0 0,.int .i64 0] 66):=by
  have h:=heap_alloc_new (w.alloc (.cells #[.int .i64 (n:Int),.int .i64 ins,.int .i64 outs,.slice sa cs.length sc,.int .i64 (n:Int),.slice aa ss.length ac,.int .i64 r] 66)) (.cells #[.int .i64 0,.int .i64 0,.int .i64 0,.slice none 0 0,.int .i64 0,.slice none 0 0,.int .i64 0] 66);rw[World.size_alloc] at h;rw[hW1];exact h
 have hK:=qH (fun W (hb:Below W1.heap.size W1 W)=>boxL7 ((hb.block _ (Array.getElem?_eq_some_iff.1 m0).1).trans m0));obtain⟨p0,p1,p2,p3,p4,p5,p6⟩:=boxL7 m0;have HX:=refCheckP (hh.out.keep hb1);have HF:=fun W (hb:Below W1.heap.size W1 W)=>refFits ((hu.keep hb1).keep hb) (n:Int)
 have hz:prE n ins outs cs n ss r=0∧fitE a n=0:=by
  unfold pbE at hE;by_cases h0:prE n ins outs cs n ss r=0
  ·rw[if_neg (fun h=>h h0)] at hE;exact⟨h0,hE⟩
  ·rw[if_pos h0] at hE;exact absurd hE h0
 rw[hz.1] at HX;simp only[hz.2] at HF;replace HX:=qH HX;replace HF:=qH HF;have hTA:=qH (fun W (hb:Below w.heap.size w W)=>And.intro (hT.keep hb) (And.intro (hA.keep hb) (hu.keep hb)));replace hOK:=qH hOK;replace hcm:=qH hcm;replace hWf:=qH hWf;replace ha:=qH ha;clear hz hu hE m0 hT hA;go_enter Tryz.func37, Tryz.ntmps37
 go_wp2_with fail
 rw[←hW1];replace hW1:=qH hW1;refine HX.out.mono ?_;rintro e W2 ⟨rfl,hb2⟩;clear p0 p1 p2 p3 p4 p5 p6;obtain⟨p0,p1,p2,p3,p4,p5,p6⟩:=hK.out W2 hb2;go_wp2_with fail
 refine(HF.out W2 hb2).mono ?_;rintro e W3 ⟨rfl,hb3⟩;have hb13:=btt hb2 hb3.below;clear p0 p1 p2 p3 p4 p5 p6;obtain⟨p0,p1,p2,p3,p4,p5,p6⟩:=hK.out W3 hb13;have m3:=(hb13.block _ (Array.getElem?_eq_some_iff.1 m1).1).trans m1;have hw3:=bt hb1 hb13 hb1.size;clear HX HF hK m1;have hp:=qH (And.intro p0 (And.intro p1 (And.intro p2 (And.intro p3 (And.intro p4 (And.intro p5 (And.intro p6 m3)))))));clear p0 p1 p2 p3 p4 p5 p6 m3;go_upto_region 7 with fail
 obtain⟨p0,p1,p2,p3,p4,p5,p6,m3⟩:=hp.out;obtain⟨hT3,hA3,hu3⟩:=hTA.out W3 hw3;refine regPro7 (B:=w.heap.size) p0 p1 p2 p3 p4 p5 p6 m3 (by omega) hw3.size hT3 (by first|exact hA3|exact hA3.adv) hOK.out hcm.out hWf.out ha.out hu3 ?_;intro y3 y7 y10 y11 W4 hG _ _ _ _;obtain⟨ta,tc,xa,xc,m4,hT4,hA4,hb4⟩:=hG.2 rfl;obtain⟨e0,e1,e2,e3,e4,e5,e6⟩:=boxL7 m4;have hfin:Below w.heap.size w W4:=hw3.trans hb4;clear hG hp p0 p1 p2 p3 p4 p5 p6 m3 hT3 hA3 hu3;go_wp2;refine bodyPost_ret (v:=.tuple #[.agg #[.int .i64 (n:Int),.int .i64 ins,.int .i64 outs,.slice ta (renT a cs).length tc,.int .i64 (n:Int),.slice xa (renA a ss).length xc,.int .i64 r],.int .i64 0]) (by simp[results,Tryz.results37,go_sem,e0,e1,e2,e3,e4,e5,e6]) rfl ?_;exact⟨_,rfl,⟨_,_,_,_,rfl,hT4.taskV,by first|exact hA4.adv|exact hA4.advC⟩,hfin⟩
theorem refSymmetricT {w:World}{v u:Value}{n:Nat}{ins outs:Int}{cs:List Cs}{ss:List (List (List Int))}{r:Int}{a:List Int}(h:PrX w v n ins outs cs n ss r) (hu:Ints w u a) (ha:IsP n a) (hOK:TskOK n ins outs cs) (hcm:∀c∈cs,c.2.2.length≤100000) (hWf:WfN n ss) (hF:FewS ss) (hSm:renT a cs=cs) :
  Calls Tryz.prog 81 #[v,u] w fun e w'=>e = .returned (.bool (kpG ss a))∧Below w.heap.size w w':=by
 obtain⟨sa,sc,aa,ac,rfl,hT,hA⟩:=h;obtain⟨ua,uc,hus⟩:∃ua uc,u = .slice ua a.length uc:=by obtain⟨ua,uc,_,_,h,_⟩:=hu;exact⟨ua,uc,h⟩
 subst hus;obtain⟨W1,hW1⟩:=exF (w.alloc (.cells #[.int .i64 (n:Int),.int .i64 ins,.int .i64 outs,.slice sa cs.length sc,.int .i64 (n:Int),.slice aa ss.length ac,.int .i64 r] 66));have hb1:Below w.heap.size w W1:=by rw[hW1];exact(Below.refl _ _).alloc (Nat.le_refl _) _
 have m0:W1.heap[w.heap.size]? = some (.cells #[.int .i64 (n:Int),.int .i64 ins,.int .i64 outs,.slice sa cs.length sc,.int .i64 (n:Int),.slice aa ss.length ac,.int .i64 r] 66):=by rw[hW1];exact heap_alloc_new _ _
 have hK:=qH (fun W (hb:Below W1.heap.size W1 W)=>boxL7 ((hb.block _ (Array.getElem?_eq_some_iff.1 m0).1).trans m0));obtain⟨p0,p1,p2,p3,p4,p5,p6⟩:=boxL7 m0;have HR:=qH (refRen11 ((hT.keep hb1).keep ((Below.refl _ W1).drew)) hOK hcm ha ((hu.keep hb1).keep ((Below.refl _ W1).drew)));have HS:=qH (fun W (h:Below W1.heap.size W1 W) (x:Value) (hx:TskO W x (n:Int) ins outs (renT a cs))=>refSameT hx.taskV ((hT.keep hb1).keep h));have HP:=qH (fun W (h:Below W1.heap.size W1 W)=>refKeeps ((hA.keep hb1).keep h) ((hu.keep hb1).keep h) hF hWf ha);have hS:decide (renT a cs=cs)=true:=decide_eq_true hSm;obtain⟨Z,hZ⟩:=exE (kpG ss a);obtain⟨M,hM⟩:=exE (renT a cs);rw[hZ];rw[hZ] at HP;rw[hM] at HR HS hS;rw[hS] at HS;clear hT hA hu hF hWf ha hS hZ hM hOK hcm m0 hSm;go_enter Tryz.func81, Tryz.ntmps81
 go_wp2_with fail
 rw[←hW1];replace hW1:=qH hW1
 go_region_held3 (fun w'=>w'.cell? ⟨w.heap.size,0,none⟩=some (.int .i64 (n:Int))∧w'.cell? ⟨w.heap.size,1,none⟩=some (.int .i64 ins)∧w'.cell? ⟨w.heap.size,2,none⟩=some (.int .i64 outs)∧w'.cell? ⟨w.heap.size,3,none⟩=some (.slice sa cs.length sc)∧w'.cell? ⟨w.heap.size,4,none⟩=some (.int .i64 (n:Int))∧w'.cell? ⟨w.heap.size,5,none⟩=some (.slice aa ss.length ac)∧w'.cell? ⟨w.heap.size,6,none⟩=some (.int .i64 r))
  (first
   | go_keep
   | exact hK.out _ hb9
   | exact hK.out _ (btt hb9 hb10)
   | exact hK.out _ (btt (btt hb9 hb10) hb11))
  (first
   | (go_at_call 78;refine HR.out.mono ?_;rintro e w9 ⟨r9,rfl,_,hO9,hb9⟩;replace hb9:Below W1.heap.size W1 w9:=(Below.refl _ W1).drew.trans hb9)
   | (go_at_call 42;refine(HS.out _ hb9 _ hO9).mono ?_;rintro e w10 ⟨rfl,hb10⟩)
   | (go_at_call 55;refine(HP.out _ (btt hb9 hb10)).mono ?_;rintro e w11 ⟨rfl,hb11⟩))
 have hfin:=bt hb1 (btt (btt hb9 hb10) hb11) hb1.size;go_wp2;go_ret;exact⟨rfl,hfin⟩
def oSy1_0:Oper:=⟨some 5,.fieldAddr 66 (.tmp 2) 0,0,"ref.go:118",#[],none⟩
def oSy1_1:Oper:=⟨some 6,.load 64 (.tmp 5),64,"ref.go:118",#[⟨0,.data⟩],none⟩
def oSy1_2:Oper:=⟨some 7,.move (.tmp 1),25,"ref.go:118",#[],none⟩
def oSy1_3:Oper:=⟨some 8,.call { callee:=.value (.func 78),args:=#[.tmp 6,.tmp 7],argTypes:=#[64,25] },64,"ref.go:118",#[⟨1,.data⟩,⟨2,.data⟩],none⟩
def oSy1_4:Oper:=⟨some 9,.fieldAddr 66 (.tmp 2) 0,0,"ref.go:118",#[],none⟩
def oSy1_5:Oper:=⟨some 10,.load 64 (.tmp 9),64,"ref.go:118",#[⟨4,.data⟩],none⟩
def oSy1_6:Oper:=⟨some 11,.call { callee:=.value (.func 42),args:=#[.tmp 8,.tmp 10],argTypes:=#[64,64] },4,"ref.go:118",#[⟨3,.data⟩,⟨5,.data⟩,⟨3,.chain⟩],none⟩
def oSy1_7:Oper:=⟨some 12,.move (.tmp 11),4,"ref.go:118",#[⟨6,.data⟩,⟨6,.chain⟩],none⟩
def oSy1_8:Oper:=⟨some 13,.fieldAddr 66 (.tmp 2) 1,0,"ref.go:118",#[⟨7,.guard⟩],some (7,true)⟩
def oSy1_9:Oper:=⟨some 14,.load 24 (.tmp 13),24,"ref.go:118",#[⟨8,.data⟩,⟨7,.guard⟩],some (7,true)⟩
def oSy1_10:Oper:=⟨some 15,.move (.tmp 1),25,"ref.go:118",#[⟨7,.guard⟩],some (7,true)⟩
def oSy1_11:Oper:=⟨some 16,.call { callee:=.value (.func 55),args:=#[.tmp 14,.tmp 15],argTypes:=#[24,25] },4,"ref.go:118",#[⟨9,.data⟩,⟨10,.data⟩,⟨7,.chain⟩,⟨7,.guard⟩],some (7,true)⟩
def oSy1_12:Oper:=⟨some 17,.pick (.tmp 12) (.tmp 16) (.const (.bool false)),4,"ref.go:118",#[⟨7,.data⟩,⟨11,.data⟩],none⟩
def oSy1_13:Oper:=⟨some 4,.assign (.tmp 17),4,"ref.go:118",#[⟨12,.data⟩,⟨11,.chain⟩,⟨0,.phase⟩,⟨1,.phase⟩,⟨2,.phase⟩,⟨3,.phase⟩,⟨4,.phase⟩,⟨5,.phase⟩,⟨6,.phase⟩,⟨7,.phase⟩,⟨8,.phase⟩,⟨9,.phase⟩,⟨10,.phase⟩,⟨11,.phase⟩,⟨12,.phase⟩],none⟩
def opsSym1:List Oper:=[oSy1_0,oSy1_1,oSy1_2,oSy1_3,oSy1_4,oSy1_5,oSy1_6,oSy1_7,oSy1_8,oSy1_9,oSy1_10,oSy1_11,oSy1_12,oSy1_13]
theorem regSym1 {w:World}{x0 x3 x4 x5 x6 x7 x8 x9 x10 x11 x12 x13 x14 x15 x16 x17:Value}{Q:Exit→Act→World→Prop}{b2 n sc ul uc:Nat}{ins outs:Int}{sa ua:Option Addr}{a:List Int}{cs:List Cs}
  (p0:w.cell? ⟨b2,0,none⟩=some (.int .i64 (n:Int))) (p1:w.cell? ⟨b2,1,none⟩=some (.int .i64 ins)) (p2:w.cell? ⟨b2,2,none⟩=some (.int .i64 outs)) (p3:w.cell? ⟨b2,3,none⟩=some (.slice sa cs.length sc))
  (hT:TaskV w (.agg #[.int .i64 (n:Int),.int .i64 ins,.int .i64 outs,.slice sa cs.length sc]) (n:Int) ins outs cs) (hOK:TskOK n ins outs cs) (hcm:∀c∈cs,c.2.2.length≤100000) (ha:IsP n a) (hu:Ints w (.slice ua ul uc) a) (hS:decide (renT a cs=cs)=false)
  (hfin:∀(y3:Value) (W:World),(Below w.heap.size w W)→(TskO W y3 (n:Int) ins outs (renT a cs))→Q .normal ⟨#[x0,.slice ua ul uc,.pointer (some ⟨b2,0,none⟩),x3,.bool false,.pointer (some ⟨b2,0,none⟩),.agg #[.int .i64 (n:Int),.int .i64 ins,.int .i64 outs,.slice sa cs.length sc],.slice ua ul uc,y3,.pointer (some ⟨b2,0,none⟩),.agg #[.int .i64 (n:Int),.int .i64 ins,.int .i64 outs,.slice sa cs.length sc],.bool false,.bool false,undef,undef,undef,undef,.bool false],[]⟩ W) :
  (Code.region 1 opsSym1.toArray true).wp Tryz.prog Q ⟨#[x0,.slice ua ul uc,.pointer (some ⟨b2,0,none⟩),x3,x4,x5,x6,x7,x8,x9,x10,x11,x12,x13,x14,x15,x16,x17],[]⟩ w:=by
 obtain⟨SG,hSG⟩:=exS (StepG Tryz.prog opsSym1.toArray (fun ys=>⟨#[x0,.slice ua ul uc,.pointer (some ⟨b2,0,none⟩),x3,ys 13,ys 0,ys 1,ys 2,ys 3,ys 4,ys 5,ys 6,ys 7,ys 8,ys 9,ys 10,ys 11,ys 12],[]⟩) [eqV (.pointer (some ⟨b2,0,none⟩)),eqV (.agg #[.int .i64 (n:Int),.int .i64 ins,.int .i64 outs,.slice sa cs.length sc]),eqV (.slice ua ul uc),fun W v=>TskO W v (n:Int) ins outs (renT a cs),eqV (.pointer (some ⟨b2,0,none⟩)),eqV (.agg #[.int .i64 (n:Int),.int .i64 ins,.int .i64 outs,.slice sa cs.length sc]),eqV (.bool false),eqV (.bool false),eqV undef,eqV undef,eqV undef,eqV undef,eqV (.bool false),eqV (.bool false)] (fun W W'=>Below W.heap.size W W') (fun _ _ W=>Below w.heap.size w W) Q)
 have st0:SG 0 oSy1_0:=by
  subst hSG;refine StepG.mk rfl fun ys D W K _ _ _ hG hK=>?_;unfold oSy1_0;have g1:=hG;go_simp;exact hK _ _ (Below.refl _ _) g1 rfl
 have st1:SG 1 oSy1_1:=by
  subst hSG;refine StepG.mk rfl (openY 0 fun y0=>fun ys D W K _ _ hd hG hK=>?_);have e0:y0=_:=(hd.get 0 rfl).2;subst e0;simp only[updG,Nat.reduceEqDiff,reduceIte];unfold oSy1_1;have g1:=hG;have c0:=cell_kept g1 p0;have c1:=cell_kept g1 p1;have c2:=cell_kept g1 p2;have c3:=cell_kept g1 p3;go_simp;exact hK _ _ (Below.refl _ _) g1 rfl
 have st2:SG 2 oSy1_2:=by
  subst hSG;refine StepG.mk rfl fun ys D W K _ _ _ hG hK=>?_;unfold oSy1_2;have g1:=hG;go_simp;exact hK _ _ (Below.refl _ _) g1 rfl
 have st3:SG 3 oSy1_3:=by
  subst hSG;refine StepG.mk rfl (openY 1 fun y1=>openY 2 fun y2=>fun ys D W K _ _ hd hG hK=>?_);have e1:y1=_:=(hd.get 1 rfl).2;have e2:y2=_:=(hd.get 2 rfl).2;subst e1 e2;simp only[updG,Nat.reduceEqDiff,reduceIte];unfold oSy1_3;have g1:=hG;have HM:=refRen11 (hT.keep g1) hOK hcm ha (hu.keep g1);go_simp;refine HM.mono ?_;rintro e W9 ⟨y,rfl,_,hO9,hb9⟩;exact hK _ _ hb9 (btt g1 hb9) hO9
 have st4:SG 4 oSy1_4:=by
  subst hSG;refine StepG.mk rfl fun ys D W K _ _ _ hG hK=>?_;unfold oSy1_4;have g1:=hG;go_simp;exact hK _ _ (Below.refl _ _) g1 rfl
 have st5:SG 5 oSy1_5:=by
  subst hSG;refine StepG.mk rfl (openY 4 fun y4=>fun ys D W K _ _ hd hG hK=>?_);have e4:y4=_:=(hd.get 4 rfl).2;subst e4;simp only[updG,Nat.reduceEqDiff,reduceIte];unfold oSy1_5;have g1:=hG;have c0:=cell_kept g1 p0;have c1:=cell_kept g1 p1;have c2:=cell_kept g1 p2;have c3:=cell_kept g1 p3;go_simp;exact hK _ _ (Below.refl _ _) g1 rfl
 have st6:SG 6 oSy1_6:=by
  subst hSG;refine StepG.mk rfl (openY 3 fun y3=>openY 5 fun y5=>fun ys D W K _ _ hd hG hK=>?_);obtain⟨d3,e3⟩:D 3=true∧(TskO W y3 (n:Int) ins outs (renT a cs)):=hd.get 3 rfl;have e5:y5=_:=(hd.get 5 rfl).2;subst e5;simp only[updG,Nat.reduceEqDiff,reduceIte];unfold oSy1_6;have g1:=hG;have HM:=refSameT e3.taskV (hT.keep g1);rw[hS] at HM;go_simp;refine HM.mono ?_;rintro e W9 ⟨rfl,hb9⟩;exact hK _ _ hb9 (btt g1 hb9) rfl
 have st7:SG 7 oSy1_7:=by
  subst hSG;refine StepG.mk rfl (openY 6 fun y6=>fun ys D W K _ _ hd hG hK=>?_);have e6:y6=_:=(hd.get 6 rfl).2;subst e6;simp only[updG,Nat.reduceEqDiff,reduceIte];unfold oSy1_7;have g1:=hG;go_simp;exact hK _ _ (Below.refl _ _) g1 rfl
 have st8:SG 8 oSy1_8:=by
  subst hSG;exact StepG.skip 7 12 (fun _ _ _ _ h4 h5=>h5 undef _ (Below.refl _ _) h4 rfl)
 have st9:SG 9 oSy1_9:=by
  subst hSG;exact StepG.skip 7 12 (fun _ _ _ _ h4 h5=>h5 undef _ (Below.refl _ _) h4 rfl)
 have st10:SG 10 oSy1_10:=by
  subst hSG;exact StepG.skip 7 12 (fun _ _ _ _ h4 h5=>h5 undef _ (Below.refl _ _) h4 rfl)
 have st11:SG 11 oSy1_11:=by
  subst hSG;exact StepG.skip 7 12 (fun _ _ _ _ h4 h5=>h5 undef _ (Below.refl _ _) h4 rfl)
 have st12:SG 12 oSy1_12:=by
  subst hSG;refine StepG.mk rfl (openY 7 fun y7=>openY 11 fun y11=>fun ys D W K _ _ hd hG hK=>?_);have e7:y7=_:=(hd.get 7 rfl).2;have e11:y11=_:=(hd.get 11 rfl).2;subst e7 e11;simp only[updG,Nat.reduceEqDiff,reduceIte];unfold oSy1_12;have g1:=hG;go_simp;exact hK _ _ (Below.refl _ _) g1 rfl
 have st13:SG 13 oSy1_13:=by
  subst hSG;refine StepG.mk rfl (openY 12 fun y12=>fun ys D W K _ _ hd hG hK=>?_);have e12:y12=_:=(hd.get 12 rfl).2;subst e12;simp only[updG,Nat.reduceEqDiff,reduceIte];unfold oSy1_13;have g1:=hG;go_simp;exact hK _ _ (Below.refl _ _) g1 rfl
 subst hSG;refine wp_region_sg (l:=opsSym1) ⟨st0,st1,st2,st3,st4,st5,st6,st7,st8,st9,st10,st11,st12,st13,trivial⟩ (fun i=>([x5,x6,x7,x8,x9,x10,x11,x12,x13,x14,x15,x16,x17,x4]:List Value).getD i undef) (by kernel_rfl) (by kernel_rfl) ⟨sE,sE,sE,fun W W' v h r=>TskO.keep h r,sE,sE,sE,sE,sE,sE,sE,sE,sE,sE,trivial⟩ ?g0 ?gx ?fin
 case g0=>exact below_drewN (Below.refl w.heap.size w) 1
 case gx=>exact fun _ _ _ _ _ h=>h
 case fin=>
  intro ys W hG hp;try dsimp only
  rw[(hp 0 (by decide):ys 0=_),(hp 1 (by decide):ys 1=_),(hp 2 (by decide):ys 2=_),(hp 4 (by decide):ys 4=_),(hp 5 (by decide):ys 5=_),(hp 6 (by decide):ys 6=_),(hp 7 (by decide):ys 7=_),(hp 8 (by decide):ys 8=_),(hp 9 (by decide):ys 9=_),(hp 10 (by decide):ys 10=_),(hp 11 (by decide):ys 11=_),(hp 12 (by decide):ys 12=_),(hp 13 (by decide):ys 13=_)];exact hfin (ys 3) W hG (hp 3 (by decide))
theorem refSymmetricF {w:World}{v u:Value}{n:Nat}{ins outs:Int}{cs:List Cs}{ss:List (List (List Int))}{r:Int}{a:List Int}(h:PrX w v n ins outs cs n ss r) (hu:Ints w u a) (ha:IsP n a) (hOK:TskOK n ins outs cs) (hcm:∀c∈cs,c.2.2.length≤100000) (hSm:renT a cs ≠ cs) :
  Calls Tryz.prog 81 #[v,u] w fun e w'=>e = .returned (.bool false)∧Below w.heap.size w w':=by
 obtain⟨sa,sc,aa,ac,rfl,hT,_⟩:=h;obtain⟨ua,uc,hus⟩:∃ua uc,u = .slice ua a.length uc:=by obtain⟨ua,uc,_,_,h,_⟩:=hu;exact⟨ua,uc,h⟩
 subst hus;obtain⟨W1,hW1⟩:=exF (w.alloc (.cells #[.int .i64 (n:Int),.int .i64 ins,.int .i64 outs,.slice sa cs.length sc,.int .i64 (n:Int),.slice aa ss.length ac,.int .i64 r] 66));have hb1:Below w.heap.size w W1:=by rw[hW1];exact(Below.refl _ _).alloc (Nat.le_refl _) _
 have m0:W1.heap[w.heap.size]? = some (.cells #[.int .i64 (n:Int),.int .i64 ins,.int .i64 outs,.slice sa cs.length sc,.int .i64 (n:Int),.slice aa ss.length ac,.int .i64 r] 66):=by rw[hW1];exact heap_alloc_new _ _
 have hp:=qH (boxL7 m0);have hTA:=qH (And.intro (hT.keep hb1) (hu.keep hb1));have hS:Hid (decide (renT a cs=cs)=false):=decide_eq_false hSm;replace hOK:=qH hOK;replace hcm:=qH hcm;replace ha:=qH ha;clear hT hu m0 hSm;go_enter Tryz.func81, Tryz.ntmps81
 go_upto_region 1 with fail
 rw[←hW1];replace hW1:=qH hW1;obtain⟨p0,p1,p2,p3,-,-,-⟩:=hp.out;refine regSym1 p0 p1 p2 p3 hTA.out.1 hOK.out hcm.out ha.out hTA.out.2 hS.out ?_;intro y3 W4 hG _;have hfin:=bt hb1 hG hb1.size;clear p0 p1 p2 p3 hp hG;go_wp2;go_ret;exact⟨rfl,hfin⟩
theorem refSymmetricC {w:World}{v u:Value}{n:Nat}{ins outs:Int}{cs:List Cs}{ss:List (List (List Int))}{r:Int}{a:List Int}(h:PrX w v n ins outs cs n ss r) (hu:Ints w u a) (ha:IsP n a) (hOK:TskOK n ins outs cs) (hcm:∀c∈cs,c.2.2.length≤100000) (hWf:WfN n ss) (hF:FewS ss) :
  Calls Tryz.prog 81 #[v,u] w fun e w'=>e = .returned (.bool (decide (renT a cs=cs) && kpG ss a))∧Below w.heap.size w w':=by
 by_cases hSm:renT a cs=cs
 ·rw[decide_eq_true hSm,Bool.true_and];exact refSymmetricT h hu ha hOK hcm hWf hF hSm
 ·rw[decide_eq_false hSm,Bool.false_and];exact refSymmetricF h hu ha hOK hcm hSm
noncomputable def symPB (cs:List Cs) (ss:List (List (List Int))) (a:List Int):Bool:=decide (renT a cs=cs) && kpG ss a
noncomputable def symLP (n1 ins outs:Int) (cs:List Cs) (n2:Int) (ss:List (List (List Int))) (r:Int):List (List Int):=if prE n1 ins outs cs n2 ss r=0 then (everyL n1.toNat).filter (symPB cs ss) else []
theorem refSymmetricB {w:World}{v u:Value}{n:Nat}{ins outs:Int}{cs:List Cs}{ss:List (List (List Int))}{r:Int}{a:List Int}(h:PrX w v n ins outs cs n ss r) (hu:Ints w u a) (ha:IsP n a) (hOK:TskOK n ins outs cs) (hcm:∀c∈cs,c.2.2.length≤100000) (hWf:WfN n ss) (hF:FewS ss) :
  Calls Tryz.prog 81 #[v,u] w fun e w'=>e = .returned (.bool (symPB cs ss a))∧Below w.heap.size w w':=refSymmetricC h hu ha hOK hcm hWf hF
theorem refSymmetriesC {w:World}{v:Value}{n1 ins outs:Int}{cs:List Cs}{n2:Int}{ss:List (List (List Int))}{r:Int}(h:PrX w v n1 ins outs cs n2 ss r) (hcm:∀c∈cs,c.2.2.length≤100000) (hF:FewS ss) :
  Calls Tryz.prog 39 #[v] w (RII w (symLP n1 ins outs cs n2 ss r) (prE n1 ins outs cs n2 ss r)):=by
 have hmx : Tryz.prog.follows .mixedOrders=true:=by kernel_rfl
 have hAk:=qH h;obtain⟨sa,sc,xa,xc,rfl,_,hA⟩:=h;obtain⟨W1,hW1⟩:=exF (w.alloc (.cells #[.int .i64 n1,.int .i64 ins,.int .i64 outs,.slice sa cs.length sc,.int .i64 n2,.slice xa ss.length xc,.int .i64 r] 66));have hb1:Below w.heap.size w W1:=by rw[hW1];exact(Below.refl _ _).alloc (Nat.le_refl _) _
 have m0:W1.heap[w.heap.size]? = some (.cells #[.int .i64 n1,.int .i64 ins,.int .i64 outs,.slice sa cs.length sc,.int .i64 n2,.slice xa ss.length xc,.int .i64 r] 66):=by rw[hW1];exact heap_alloc_new _ _
 have hK:=qH (fun W (hb:Below W1.heap.size W1 W)=>boxL7 ((hb.block _ (Array.getElem?_eq_some_iff.1 m0).1).trans m0));obtain⟨p0,p1,p2,p3,p4,p5,p6⟩:=boxL7 m0;have HX:=refCheckP (hAk.out.keep hb1);obtain⟨E,hE⟩:=exE (prE n1 ins outs cs n2 ss r);rw[hE] at HX;replace HX:=qH HX;by_cases h0:E=0
 ·subst h0;obtain⟨t1,t2,t3,-,-⟩:=prE_ok hE;obtain⟨k,hk2,hW⟩:=wfN_of hA.adv t2;subst hk2;subst t3;have hOK:=TskOK.of t1;have hgl:symLP k ins outs cs k ss r=(everyL k).filter (symPB cs ss):=by rw[symLP,if_pos hE,Int.toNat_natCast]
  have h5:=hW.h5;have hKp:=qH (fun W (hb:Below W1.heap.size W1 W) x (hx:x∈everyL k) u (hu:OI W 0 u x.length x)=>refSymmetricB ((hAk.out.keep hb1).keep hb) (hu.ints (by have:=(mem_everyL.1 hx).1;omega)) (mem_everyL.1 hx) hOK hcm hW hF);have HEv:=qH (fun W=>every k h5 W);have hel:=every_len h5;rw[hgl,hE];obtain⟨p,hp⟩:=exE (symPB cs ss);rw[hp];simp only[hp] at hKp;obtain⟨L,hL⟩:=exE (everyL k);rw[hL] at hel⊢;simp only[hL] at hKp HEv;clear hA hF hW hE hgl hp hL hOK hcm t1 t2 m0;go_enter Tryz.func39, Tryz.ntmps39
  go_wp2_with fail
  rw[←hW1];replace hW1:=qH hW1;refine HX.out.mono ?_;rintro e W2 ⟨rfl,hb2⟩;clear p0 p1 p2 p3 p4 p5 p6;obtain⟨p0,p1,p2,p3,p4,p5,p6⟩:=hK.out W2 hb2;go_wp2_with fail
  refine(HEv.out W2).mono ?_;rintro e W3 ⟨r3,rfl,ho3,hb3⟩;have hb13:=btt hb2 hb3;obtain⟨va,vc,hv3⟩:=ho3.shape;subst hv3;have ho3:=qH (ho3.base (Nat.zero_le _));have hs3:=hb3.size;have hr0:OII W3 W3.heap.size (.slice none 0 0) ((L.take 0).filter p).length ((L.take 0).filter p):=OII.nil _ _;have hbr0:=Below.refl W3.heap.size W3;have hs13:=hb13.size;clear p0 p1 p2 p3 p4 p5 p6 HX HEv;go_wp2_with fail
  go_loopw [5,7] (fun ov iv wr=>∃i:Nat,iv = .int .i64 (i:Int)∧i≤L.length∧OII wr W3.heap.size ov ((L.take i).filter p).length ((L.take i).filter p)∧Hid (Below W3.heap.size W3 wr)) (fun _ iv _=>L.length - (intOf iv).toNat)
  case atStart=>exact⟨0,rfl,Nat.zero_le _,hr0,hbr0⟩
  case round=>
   clear hr0 hbr0;obtain⟨i,rfl,hi,ho,hb⟩:=hrel;have hoL:=ho3.out.keep hb.out;have hb1r:=btt hb13 hb.out;obtain⟨oa,oc,hov⟩:=ho.shape;subst hov;by_cases hlt:i < L.length
   ·have hltI:(i:Int) < (L.length:Int):=(by omega);obtain⟨g,cap,he⟩:=hoL.form2 (by omega);obtain⟨rfl,rfl⟩:va=some ⟨g,0,none⟩∧vc=cap:=(by injection he with h1 h2 h3;exact⟨h1,h3⟩);obtain⟨u,hcu,hu⟩:=hoL.get hlt;obtain⟨x,hx⟩:=exE (L.getD i []);have hxm:x∈L:=(by rw[←hx];exact getD_mem hlt);rw[hx] at hu;obtain⟨ua,uc,huv⟩:=hu.shape;subst huv
    have hfs:(L.take (i+1)).filter p=(L.take i).filter p++if p x then [x] else []:=by
     rw[take_snoc hlt [],hx,List.filter_append];cases hp:p x<;>simp[hp]
    have HC:=qH (fun W (h:Below wr.heap.size wr W)=>hKp.out W (btt hb1r h) x hxm _ (hu.keep h));obtain⟨N,hN⟩:=exE (((L.take i).filter p).length);have hNl:N≤L.length:=(by rw[←hN];exact Nat.le_trans (List.length_filter_le _ _) (by rw[List.length_take];omega));rw[hN] at ho⊢;have hS:=qH (fun W (h:Below wr.heap.size wr W)=>And.intro (hK.out W (btt hb1r h)) (cell_kept h hcu));obtain⟨B,hB⟩:=exE (p x);rw[hB] at hfs;simp only[hB] at HC;replace hB:=qH hB;clear hx he;go_upto_region 9 with fail
    refine wp_region_bw hmx (by kernel_rfl) ?_
    (refine WQ.step fun K hK=>?_;go_simp;first|(refine hK _ ?_;clear hK K)|(apply Exists.intro;refine⟨fun wq hC=>?_,hK _ ?_⟩;(·(obtain⟨⟨z0,z1,z2,z3,z4,z5,z6⟩,z7⟩:=hS.out wq hC;go_simp;first|done|with_reducible rfl|with_reducible exact⟨rfl,rfl⟩));clear hK K))
    (refine WQ.step fun K hK=>?_;go_simp;first|(refine hK _ ?_;clear hK K)|(apply Exists.intro;refine⟨fun wq hC=>?_,hK _ ?_⟩;(·(with_reducible rfl));clear hK K))
    (refine WQ.step fun K hK=>?_;go_simp;first|(refine hK _ ?_;clear hK K)|(apply Exists.intro;refine⟨fun wq hC=>?_,hK _ ?_⟩;(·(with_reducible rfl));clear hK K))
    (refine WQ.step fun K hK=>?_;go_simp;first|(refine hK _ ?_;clear hK K)|(apply Exists.intro;refine⟨fun wq hC=>?_,hK _ ?_⟩;(·(go_simp;first|done|with_reducible rfl|with_reducible exact⟨rfl,rfl⟩));clear hK K))
    (refine WQ.step fun K hK=>?_;go_simp;first|(refine hK _ ?_;clear hK K)|(apply Exists.intro;refine⟨fun wq hC=>?_,hK _ ?_⟩;(·(obtain⟨⟨z0,z1,z2,z3,z4,z5,z6⟩,z7⟩:=hS.out wq hC;go_simp;first|done|with_reducible rfl|with_reducible exact⟨rfl,rfl⟩));clear hK K))
    (refine WQ.step fun K hK=>?_;go_simp;first|(refine hK _ ?_;clear hK K)|(apply Exists.intro;refine⟨fun wq hC=>?_,hK _ ?_⟩;(·(refine(HC.out wq hC).mono ?_;rintro e w' ⟨rfl,hb⟩;exact⟨rfl,bt hC hb hC.size⟩));clear hK K))
    refine WQ.nil ?_;intro w4 hb4;have ho4:=ho.keep hb4;have hu4:=hu.keep hb4;have hc4:=cell_kept hb4 hcu;have hbw:Below W3.heap.size W3 w4:=btt hb.out hb4;clear ho hu hcu hoL hS HC;cases B with
    | true=>
     rw[if_pos rfl] at hfs;have hfl:((L.take (i+1)).filter p).length=N+1:=(by rw[hfs,List.length_append,hN];rfl);replace hfs:=qH hfs;replace hfl:=qH hfl;replace hN:=qH hN;go_wp2_with (at_builtin;refine wpApp1S rfl _ _ rfl rfl ho4 rfl hu4 rfl (by omega) hbw.size ?_;intro v2 w2 ho2 hb2 hm2)
     have hfin:OII w2 W3.heap.size v2 ((L.take (i+1)).filter p).length ((L.take (i+1)).filter p):=(by rw[hfl.out,hfs.out];exact ho2);have hbf:Below W3.heap.size W3 w2:=hbw.trans hb2;clear ho2 ho4;go_wp2_with fail
     go_roundw
     case rel=>exact⟨i+1,by go_num,by omega,hfin,hbf⟩
     case measure=>simp[intOf];omega
    | false=>
     rw[if_neg (by decide),List.append_nil] at hfs;have hfl:((L.take (i+1)).filter p).length=N:=(by rw[hfs,hN]);replace hfs:=qH hfs;replace hfl:=qH hfl;replace hN:=qH hN;have hfin:OII w4 W3.heap.size (.slice oa N oc) ((L.take (i+1)).filter p).length ((L.take (i+1)).filter p):=(by rw[hfl.out,hfs.out];exact ho4);clear ho4;go_wp2_with fail
     go_roundw
     case rel=>exact⟨i+1,by go_num,by omega,hfin,hbw⟩
     case measure=>simp[intOf];omega
   ·obtain rfl:i=L.length:=(by omega);rw[List.take_length] at ho⊢;have hfin:=bt hb1 hb1r hb1.size;have hbs:=hb1.size;have hof:OII wr w.heap.size (.slice oa (L.filter p).length oc) (L.filter p).length (L.filter p):=ho.base (by omega);clear ho;go_wp2;go_ret2
    exact⟨_,rfl,hof,hfin⟩
 ·have hgl:symLP n1 ins outs cs n2 ss r = []:=by rw[symLP,if_neg (by rw[hE];exact h0)]
  have hEb:(E != 0)=true:=by simp[h0]
  rw[hgl,hE];clear hA hF hE hgl m0;go_enter Tryz.func39, Tryz.ntmps39
  go_wp2_with fail
  rw[←hW1];replace hW1:=qH hW1;refine HX.out.mono ?_;rintro e W2 ⟨rfl,hb2⟩;have hfin:=bt hb1 hb2 hb1.size;go_wp2;go_ret2
  exact RII.none rfl rfl hfin
theorem symmetriesBad {w:World}{v:Value}{n1 ins outs:Int}{cs:List Cs}{n2:Int}{ss:List (List (List Int))}{r:Int}(h:PrX w v n1 ins outs cs n2 ss r) (hm:movesN ss≤1000000000) (hE:prE n1 ins outs cs n2 ss r ≠ 0) :
  Calls Tryz.prog 38 #[v] w (RII w [] (prE n1 ins outs cs n2 ss r)):=by
 have hk:=qH h;obtain⟨sa,sc,aa,ac,rfl,_,_⟩:=h;obtain⟨W1,hW1⟩:=exF (w.alloc (.cells #[.int .i64 n1,.int .i64 ins,.int .i64 outs,.slice sa cs.length sc,.int .i64 n2,.slice aa ss.length ac,.int .i64 r] 66));have hb1:Below w.heap.size w W1:=by rw[hW1];exact(Below.refl _ _).alloc (Nat.le_refl _) _
 have m1:W1.heap[w.heap.size]? = some (.cells #[.int .i64 n1,.int .i64 ins,.int .i64 outs,.slice sa cs.length sc,.int .i64 n2,.slice aa ss.length ac,.int .i64 r] 66):=by rw[hW1];exact heap_alloc_new _ _
 obtain⟨p0,p1,p2,p3,p4,p5,p6⟩:=boxL7 m1;have HP:=problemAll (hk.out.keep hb1) hm;obtain⟨E,hEe⟩:=exE (prE n1 ins outs cs n2 ss r);rw[hEe] at hE HP⊢;have hEb:(E != 0)=true:=by simp[hE]
 replace HP:=qH HP;replace hEe:=qH hEe;clear m1 hE;go_enter Tryz.func38, Tryz.ntmps38
 go_wp2_with fail
 rw[←hW1];replace hW1:=qH hW1;refine HP.out.mono ?_;rintro e W2 ⟨rfl,hb2⟩;have hfin:=bt hb1 hb2 hb1.size;go_wp2;go_ret2
 exact RII.none rfl rfl hfin
theorem symmetriesAll {w:World}{v:Value}{n1 ins outs:Int}{cs:List Cs}{n2:Int}{ss:List (List (List Int))}{r:Int}(h:PrX w v n1 ins outs cs n2 ss r) (hF:FewS ss) (hm:movesN ss≤1000000000) :
  Calls Tryz.prog 38 #[v] w (RII w (if prE n1 ins outs cs n2 ss r=0 then symP n1.toNat cs ss else []) (prE n1 ins outs cs n2 ss r)):=by
 by_cases h0:prE n1 ins outs cs n2 ss r=0
 ·obtain⟨t1,t2,t3,t4,t5⟩:=prE_ok h0
  have hA:∃k:Nat,n2=k:=by
   obtain⟨_,_,_,_,_,_,hA⟩:=h;obtain⟨k,hk,_⟩:=wfN_of hA.adv t2;exact⟨k,hk⟩
  obtain⟨k,rfl⟩:=hA;subst t3;rw[if_pos h0,h0,Int.toNat_natCast];exact symmetriesC h.prV ⟨t1,t2,t4,t5,hF⟩
 ·rw[if_neg h0];exact symmetriesBad h hm h0
def pbI (E x:Int):Int:=if E=0 then x else 0
def pbL {α:Type}(E:Int) (l:List α):List α:=if E=0 then l else []
theorem pbE_ok {n1 ins outs:Int}{cs:List Cs}{n2:Int}{ss:List (List (List Int))}{r:Int}{a:List Int}(h:pbE n1 ins outs cs n2 ss r a=0):prE n1 ins outs cs n2 ss r=0∧fitE a n1=0:=by
 unfold pbE at h;by_cases h0:prE n1 ins outs cs n2 ss r=0
 ·rw[if_neg (fun k=>k h0)] at h;exact⟨h0,h⟩
 ·rw[if_pos h0] at h;exact absurd h h0
def PbAns (w:World) (n1 ins outs:Int) (cs:List Cs) (n2:Int) (ss:List (List (List Int))) (r:Int) (a:List Int) (e:Ending) (w':World):Prop:=
 ∃x,e = .returned (.tuple #[x,.int .i64 (pbE n1 ins outs cs n2 ss r a)])∧PrX w' x (pbI (pbE n1 ins outs cs n2 ss r a) n1) (pbI (pbE n1 ins outs cs n2 ss r a) ins) (pbI (pbE n1 ins outs cs n2 ss r a) outs) (pbL (pbE n1 ins outs cs n2 ss r a) (renT a cs)) (pbI (pbE n1 ins outs cs n2 ss r a) n2) (pbL (pbE n1 ins outs cs n2 ss r a) (renA a ss)) (pbI (pbE n1 ins outs cs n2 ss r a) r)∧Below w.heap.size w w'
theorem symProblemAll {w:World}{v u:Value}{n1 ins outs:Int}{cs:List Cs}{n2:Int}{ss:List (List (List Int))}{r:Int}{a:List Int}(h:PrX w v n1 ins outs cs n2 ss r) (hu:Ints w u a) (hm:movesN ss≤1000000000) (hF:FewS ss) :
  Calls Tryz.prog 36 #[v,u] w (PbAns w n1 ins outs cs n2 ss r a):=by
 by_cases hE:pbE n1 ins outs cs n2 ss r a=0
 ·obtain⟨hP,hf⟩:=pbE_ok hE;obtain⟨t1,t2,t3,t4,t5⟩:=prE_ok hP
  have hA:∃k:Nat,n2=k:=by
   obtain⟨_,_,_,_,_,_,hA⟩:=h;obtain⟨k,hk,_⟩:=wfN_of hA.adv t2;exact⟨k,hk⟩
  obtain⟨k,rfl⟩:=hA;subst t3;have hOK:=TskOK.of t1;refine(symProblemGood h.prV ⟨t1,t2,t4,t5,hF⟩ hu ((fit_isP hOK.n1 hOK.n5).1 hf)).mono ?_;rintro e w' ⟨x,rfl,hx,hb⟩;refine⟨x,by rw[hE],?_,hb⟩;simp only[hE,pbI,pbL,if_pos];exact hx.prX
 ·refine(symProblemBad h hu hm hE).mono ?_;rintro e w' ⟨rfl,hb⟩;refine⟨_,rfl,?_,hb⟩;simp only[pbI,pbL,if_neg hE];exact PrX.zero w'
theorem refProblemAll {w:World}{v u:Value}{n1 ins outs:Int}{cs:List Cs}{n2:Int}{ss:List (List (List Int))}{r:Int}{a:List Int}(h:PrX w v n1 ins outs cs n2 ss r) (hu:Ints w u a) (hcm:∀c∈cs,c.2.2.length≤100000) :
  Calls Tryz.prog 37 #[v,u] w (PbAns w n1 ins outs cs n2 ss r a):=by
 by_cases hE:pbE n1 ins outs cs n2 ss r a=0
 ·obtain⟨hP,hf⟩:=pbE_ok hE;obtain⟨t1,t2,t3,t4,t5⟩:=prE_ok hP
  have hA:∃k:Nat,n2=k∧WfN k ss:=by
   obtain⟨_,_,_,_,_,_,hA⟩:=h;exact wfN_of hA.adv t2
  obtain⟨k,rfl,hW⟩:=hA;subst t3;have hOK:=TskOK.of t1;refine(refProblemGood h hu hE ((fit_isP hOK.n1 hOK.n5).1 hf) hOK hcm hW).mono ?_;rintro e w' ⟨x,rfl,hx,hb⟩;refine⟨x,by rw[hE],?_,hb⟩;simp only[hE,pbI,pbL,if_pos];exact hx
 ·refine(refProblemBad h hu hE).mono ?_;rintro e w' ⟨rfl,hb⟩;refine⟨_,rfl,?_,hb⟩;simp only[pbI,pbL,if_neg hE];exact PrX.zero w'
theorem symP_eq (n:Nat) (cs:List Cs) (ss:List (List (List Int))):symP n cs ss=(everyL n).filter (symPB cs ss):=by
 rw[symP,symT,List.filter_filter];refine List.filter_congr fun x _=>?_;rw[symPB,Bool.and_comm];congr 1
 exact decide_eq_decide.2 ⟨Eq.symm,Eq.symm⟩
theorem symLP_eq (n1 ins outs:Int) (cs:List Cs) (n2:Int) (ss:List (List (List Int))) (r:Int):(if prE n1 ins outs cs n2 ss r=0 then symP n1.toNat cs ss else [])=symLP n1 ins outs cs n2 ss r:=by
 rw[symLP,symP_eq]
theorem symProblemG {w:World}{v u:Value}{n1 ins outs:Int}{cs:List Cs}{n2:Int}{ss:List (List (List Int))}{r:Int}{a:List Int}(h:PrX w v n1 ins outs cs n2 ss r) (hu:Ints w u a) (hm:movesN ss≤1000000000) (hF:FewS ss) {E k0 k1 k2 k4 k6:Int}{k3:List Cs}{k5:List (List (List Int))}(hE:pbE n1 ins outs cs n2 ss r a=E)
  (e0:pbI E n1=k0) (e1:pbI E ins=k1) (e2:pbI E outs=k2) (e3:pbL E (renT a cs)=k3) (e4:pbI E n2=k4) (e5:pbL E (renA a ss)=k5) (e6:pbI E r=k6) :
  Calls Tryz.prog 36 #[v,u] w fun e w'=>∃x,e = .returned (.tuple #[x,.int .i64 E])∧PrX w' x k0 k1 k2 k3 k4 k5 k6∧Below w.heap.size w w':=by
 subst hE e0 e1 e2 e3 e4 e5 e6;exact symProblemAll h hu hm hF
theorem refProblemG {w:World}{v u:Value}{n1 ins outs:Int}{cs:List Cs}{n2:Int}{ss:List (List (List Int))}{r:Int}{a:List Int}(h:PrX w v n1 ins outs cs n2 ss r) (hu:Ints w u a) (hcm:∀c∈cs,c.2.2.length≤100000) {E k0 k1 k2 k4 k6:Int}{k3:List Cs}{k5:List (List (List Int))}(hE:pbE n1 ins outs cs n2 ss r a=E)
  (e0:pbI E n1=k0) (e1:pbI E ins=k1) (e2:pbI E outs=k2) (e3:pbL E (renT a cs)=k3) (e4:pbI E n2=k4) (e5:pbL E (renA a ss)=k5) (e6:pbI E r=k6) :
  Calls Tryz.prog 37 #[v,u] w fun e w'=>∃x,e = .returned (.tuple #[x,.int .i64 E])∧PrX w' x k0 k1 k2 k3 k4 k5 k6∧Below w.heap.size w w':=by
 subst hE e0 e1 e2 e3 e4 e5 e6;exact refProblemAll h hu hcm
theorem fewT_cm {cs:List Cs}(h:fewT cs=true):∀c∈cs,c.2.2.length≤100000:=fun c hc=>by
 unfold fewT at h;rw[Bool.and_eq_true,List.all_eq_true] at h;have h2:=h.2 c hc;unfold fewC at h2;simp only[Bool.and_eq_true] at h2;have h3:=h2.2.2;unfold fewV at h3;simp only[Bool.and_eq_true,decide_eq_true_eq] at h3;omega
theorem symLP_le {n1 ins outs:Int}{cs:List Cs}{n2:Int}{ss:List (List (List Int))}{r:Int}:(symLP n1 ins outs cs n2 ss r).length≤1000∧∀x∈symLP n1 ins outs cs n2 ss r,x.length≤1000:=by
 unfold symLP;split
 ·rename_i h0
  obtain⟨t1,t2,t3,-,-⟩:=prE_ok h0
  have h5:n1.toNat≤5:=by
   have h:1≤n1∧n1≤5:=by
    unfold chkT at t1;split at t1
    ·cases t1
    ·omega
   omega
  refine⟨Nat.le_trans (List.length_filter_le _ _) (every_len h5),fun x hx=>?_⟩;have:=(mem_everyL.1 (List.mem_filter.1 hx).1).1
  omega
 ·exact⟨by simp,by simp⟩
theorem lawProblems {w:World}{v u:Value}{n1 ins outs:Int}{cs:List Cs}{n2:Int}{ss:List (List (List Int))}{r:Int}{a:List Int}(h:PrX w v n1 ins outs cs n2 ss r) (hu:Ints w u a) :
  Calls Tryz.prog 8 #[v,u] w (Yes w):=by
 have hh:=qH h;obtain⟨sa,sc,aa,ac,rfl,hT,hA⟩:=h;obtain⟨ua,uc,hus⟩:∃ua uc,u = .slice ua a.length uc:=by obtain⟨ua,uc,_,_,h,_⟩:=hu;exact⟨ua,uc,h⟩
 subst hus;obtain⟨W1,hW1⟩:=exF (w.alloc (.cells #[.int .i64 n1,.int .i64 ins,.int .i64 outs,.slice sa cs.length sc,.int .i64 n2,.slice aa ss.length ac,.int .i64 r] 66));obtain⟨hb1,m1⟩:=boxPr hW1;have hK:=qH (fun W (hb:Below W1.heap.size W1 W)=>boxL7 ((hb.block _ (Array.getElem?_eq_some_iff.1 m1).1).trans m1));obtain⟨p0,p1,p2,p3,p4,p5,p6⟩:=boxL7 m1;have hX:=qH (fun W (hb:Below W1.heap.size W1 W)=>(hh.out.keep hb1).keep hb);have hu1:=qH (fun W (hb:Below W1.heap.size W1 W)=>(hu.keep hb1).keep hb);have HF:=refFewP (hX.out W1 (Below.refl _ _));obtain⟨fx,hfx⟩:=exE ((fewT cs && fewA ss));rw[hfx] at HF;replace HF:=qH HF;clear m1 hT hA hu;cases fx
 ·clear hfx hX hu1;go_enter Tryz.func8, Tryz.ntmps8
  go_wp2_with fail
  rw[←hW1];replace hW1:=qH hW1;refine HF.out.mono ?_;rintro e W2 ⟨rfl,hb2⟩;clear p0 p1 p2 p3 p4 p5 p6;go_wp2_with fail
  refine(awakeC (w:=W2)).mono ?_;rintro e W9 ⟨rfl,hq⟩;have hb9:=bt hb1 (btt hb2 hq) hb1.size;go_wp2;go_ret;exact⟨rfl,hb9⟩
 by_cases h60:60 < a.length
 ·have hd:decide ((60:Int) < (a.length:Int))=true:=decide_eq_true (by omega);clear hfx hX hu1;go_enter Tryz.func8, Tryz.ntmps8
  go_wp2_with fail
  rw[←hW1];replace hW1:=qH hW1;refine HF.out.mono ?_;rintro e W2 ⟨rfl,hb2⟩;clear p0 p1 p2 p3 p4 p5 p6;go_wp2_with fail
  refine(awakeC (w:=W2)).mono ?_;rintro e W9 ⟨rfl,hq⟩;have hb9:=bt hb1 (btt hb2 hq) hb1.size;go_wp2;go_ret;exact⟨rfl,hb9⟩
 ·have hd:decide ((60:Int) < (a.length:Int))=false:=decide_eq_false (by omega);have hff:fewT cs=true∧fewA ss=true:=by rw[Bool.and_eq_true] at hfx;exact hfx
  have hF:=fewS_of hff.2;have hcm:∀c∈cs,c.2.2.length≤100000:=fewT_cm hff.1;have hm:movesN ss≤1000000000:=by have:=hF.m;omega
  have HG:=fun W (hb:Below W1.heap.size W1 W)=>symmetriesAll (hX.out W hb) hF hm;have HH:=fun W (hb:Below W1.heap.size W1 W)=>refSymmetriesC (hX.out W hb) hcm hF;simp only[symLP_eq] at HG;obtain⟨hl1,hl2⟩:=symLP_le (n1:=n1) (ins:=ins) (outs:=outs) (cs:=cs) (n2:=n2) (ss:=ss) (r:=r);obtain⟨g,hg⟩:=exE (symLP n1 ins outs cs n2 ss r);obtain⟨P,hP⟩:=exE (prE n1 ins outs cs n2 ss r);obtain⟨E,hE⟩:=exE (pbE n1 ins outs cs n2 ss r a);simp only[hg,hP] at HG HH;rw[hg] at hl1 hl2;have hl3:Hid (∀x∈g,x.length≤17592186044416):=fun x hx=>by have:=hl2 x hx;omega
  obtain⟨k0,e0⟩:=exE (pbI E n1);obtain⟨k1,e1⟩:=exE (pbI E ins);obtain⟨k2,e2⟩:=exE (pbI E outs);obtain⟨k3,e3⟩:=exE (pbL E (renT a cs));obtain⟨k4,e4⟩:=exE (pbI E n2);obtain⟨k5,e5⟩:=exE (pbL E (renA a ss));obtain⟨k6,e6⟩:=exE (pbI E r);have HP:=fun W (hb:Below W1.heap.size W1 W)=>symProblemG (hX.out W hb) (hu1.out W hb) hm hF hE e0 e1 e2 e3 e4 e5 e6;have HR:=fun W (hb:Below W1.heap.size W1 W)=>refProblemG (hX.out W hb) (hu1.out W hb) hcm hE e0 e1 e2 e3 e4 e5 e6;have q1:(E == E)=true:=by simp
  have q2:(P == P)=true:=by simp
  replace HP:=qH HP;replace HR:=qH HR;replace HG:=qH HG;replace HH:=qH HH;clear hfx hX hu1 hff hF hcm hm hg hP hE hl2 e0 e1 e2 e3 e4 e5 e6;go_enter Tryz.func8, Tryz.ntmps8
  go_wp2_with fail
  rw[←hW1];replace hW1:=qH hW1;refine HF.out.mono ?_;rintro e W2 ⟨rfl,hb2⟩;clear p0 p1 p2 p3 p4 p5 p6;obtain⟨p0,p1,p2,p3,p4,p5,p6⟩:=hK.out W2 hb2;go_wp2_with fail
  refine(HP.out W2 hb2).mono ?_;rintro e W3 ⟨r3,rfl,hX3,hq⟩;have hb3:=btt hb2 hq;have hX3h:=qH hX3;obtain⟨sa3,sc3,xa3,xc3,rfl,_,_⟩:=hX3;obtain⟨W4,hW4⟩:=exF (W3.alloc (.cells #[.int .i64 k0,.int .i64 k1,.int .i64 k2,.slice sa3 k3.length sc3,.int .i64 k4,.slice xa3 k5.length xc3,.int .i64 k6] 66));obtain⟨hb4a,m4⟩:=boxPr hW4;have hX4:=qH (hX3h.out.keep hb4a);have hb4:=btt hb3 hb4a;clear hq p0 p1 p2 p3 p4 p5 p6 HF hX3h hd;obtain⟨p0,p1,p2,p3,p4,p5,p6⟩:=hK.out W4 hb4;go_upto_region 4 with fail
  rw[←hW4];replace hW4:=qH hW4;go_wp2_with fail
  refine(HR.out W4 hb4).mono ?_;rintro e W5 ⟨r5,rfl,hX5,hq⟩;have hb5:=btt hb4 hq;have m5:=(hq.block _ (Array.getElem?_eq_some_iff.1 m4).1).trans m4;have hX45:=qH (hX4.out.keep hq);have hX5h:=qH hX5;obtain⟨sa5,sc5,xa5,xc5,rfl,_,_⟩:=hX5;obtain⟨W6,hW6⟩:=exF (W5.alloc (.cells #[.int .i64 k0,.int .i64 k1,.int .i64 k2,.slice sa5 k3.length sc5,.int .i64 k4,.slice xa5 k5.length xc5,.int .i64 k6] 66));obtain⟨hb6a,m6⟩:=boxPr hW6;have hX6:=qH (hX5h.out.keep hb6a);have hX46:=qH (hX45.out.keep hb6a);have m56:=(hb6a.block _ (Array.getElem?_eq_some_iff.1 m5).1).trans m5;have hb6:=btt hb5 hb6a;clear hq p0 p1 p2 p3 p4 p5 p6 hX5h hX4 hX45 m4 m5 HR HP;obtain⟨p0,p1,p2,p3,p4,p5,p6⟩:=hK.out W6 hb6;go_upto_region 5 with fail
  rw[←hW6];replace hW6:=qH hW6;go_wp2_with fail
  refine(HG.out W6 hb6).mono ?_;rintro e W7 ⟨r7,rfl,ho7,hq7⟩;have hb7:=btt hb6 hq7;obtain⟨ta,tc,rfl⟩:=ho7.shape;replace ho7:=qH ho7;clear p0 p1 p2 p3 p4 p5 p6;obtain⟨p0,p1,p2,p3,p4,p5,p6⟩:=hK.out W7 hb7;go_wp2_with fail
  refine(HH.out W7 hb7).mono ?_;rintro e W8 ⟨r8,rfl,ho8,hq8⟩;have hb8:=btt hb7 hq8;obtain⟨va,vc,rfl⟩:=ho8.shape;replace ho7:=qH (ho7.out.keep hq8);replace ho8:=qH ho8;clear p0 p1 p2 p3 p4 p5 p6;go_wp2_with fail
  refine(awakeC (w:=W8)).mono ?_;rintro e W9 ⟨rfl,hq9⟩;have hb9:=btt hb8 hq9;have hq:=btt hq7 (btt hq8 hq9);have mX:=(hq.block _ (Array.getElem?_eq_some_iff.1 m56).1).trans m56;have mY:=(hq.block _ (Array.getElem?_eq_some_iff.1 m6).1).trans m6;obtain⟨y0,y1,y2,y3,y4,y5,y6⟩:=boxL7 mX;obtain⟨z0,z1,z2,z3,z4,z5,z6⟩:=boxL7 mY;have HS:=qH (sameProbT (hX46.out.keep hq) (hX6.out.keep hq));have HS2:=qH (fun W (hb:Below W9.heap.size W9 W)=>sAll (((ho7.out.keep hq9).keep hb).intss (by omega) hl3.out) (((ho8.out.keep hq9).keep hb).intss (by omega) hl3.out));clear hq hq7 hq8 hq9 mX mY m56 m6 HG HH hX46 hX6 ho7 ho8;go_wp2_with fail
  refine HS.out.mono ?_;rintro e W10 ⟨rfl,hq⟩;have hb10:=btt hb9 hq;have HS3:=qH (HS2.out W10 hq);clear hq HS HS2 y0 y1 y2 y3 y4 y5 y6 z0 z1 z2 z3 z4 z5 z6;go_wp2_with fail
  refine HS3.out.mono ?_;rintro e W11 ⟨rfl,hq⟩;have hfin:=bt hb1 (btt hb10 hq.below) hb1.size;go_wp2;go_ret;exact⟨rfl,hfin⟩
end Go.Proofs.YtmikofeildnpdaaGreat
