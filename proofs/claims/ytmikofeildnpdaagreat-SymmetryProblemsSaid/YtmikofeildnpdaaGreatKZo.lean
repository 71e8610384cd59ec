/- Texts of this claim, put together: SJ. -/
import Derived.Test.YtmikofeildnpdaaGreatKZn
import Derived.Deep.OwnRows

set_option maxRecDepth 100000
set_option maxHeartbeats 12800000
namespace Go.Proofs.YtmikofeildnpdaaGreat
open Go.RowKit
def oRe3_0:Oper:=⟨some 14,.move (.tmp 0),78,"slices.go:485",#[],none⟩
def oRe3_1:Oper:=⟨some 15,.move (.tmp 2),3,"slices.go:485",#[],none⟩
def oRe3_2:Oper:=⟨some 16,.move (.tmp 0),78,"slices.go:485",#[{ on:=13,ground:=Ground.gcOnly Departure.lateStores }],none⟩
def oRe3_3:Oper:=⟨some 17,.move (.tmp 3),3,"slices.go:485",#[{ on:=13,ground:=Ground.gcOnly Departure.lateStores }],none⟩
def oRe3_4:Oper:=⟨some 18,.move (.tmp 0),78,"slices.go:485",#[],none⟩
def oRe3_5:Oper:=⟨some 19,.move (.tmp 3),3,"slices.go:485",#[],none⟩
def oRe3_6:Oper:=⟨some 20,.indexAddr 78 (.tmp 18) (.tmp 19),0,"slices.go:485",#[⟨4,.data⟩,⟨5,.data⟩],none⟩
def oRe3_7:Oper:=⟨some 21,.load 87 (.tmp 20),87,"slices.go:485",#[⟨6,.data⟩],none⟩
def oRe3_8:Oper:=⟨some 22,.move (.tmp 0),78,"slices.go:485",#[],none⟩
def oRe3_9:Oper:=⟨some 23,.move (.tmp 2),3,"slices.go:485",#[],none⟩
def oRe3_10:Oper:=⟨some 24,.indexAddr 78 (.tmp 22) (.tmp 23),0,"slices.go:485",#[⟨8,.data⟩,⟨9,.data⟩],none⟩
def oRe3_11:Oper:=⟨some 25,.load 87 (.tmp 24),87,"slices.go:485",#[⟨10,.data⟩],none⟩
def oRe3_12:Oper:=⟨some 26,.indexAddr 78 (.tmp 14) (.tmp 15),0,"slices.go:485",#[⟨0,.data⟩,⟨1,.data⟩,⟨0,.phase⟩,⟨1,.phase⟩,⟨2,.textOnly .lateStores⟩,⟨3,.textOnly .lateStores⟩,⟨4,.phase⟩,⟨5,.phase⟩,⟨6,.phase⟩,⟨7,.phase⟩,⟨8,.textOnly .lateStores⟩,⟨9,.textOnly .lateStores⟩,⟨10,.textOnly .lateStoresUnsure⟩,⟨11,.phase⟩],none⟩
def oRe3_13:Oper:=⟨none,.store 87 (.tmp 26) (.tmp 21),0,"slices.go:485",#[⟨12,.data⟩,⟨7,.data⟩,⟨0,.phase⟩,⟨1,.phase⟩,⟨2,.textOnly .lateStores⟩,⟨3,.textOnly .lateStores⟩,⟨4,.phase⟩,⟨5,.phase⟩,⟨6,.phase⟩,⟨7,.phase⟩,⟨8,.textOnly .lateStores⟩,⟨9,.textOnly .lateStores⟩,⟨10,.textOnly .lateStoresUnsure⟩,⟨11,.phase⟩],none⟩
def oRe3_14:Oper:=⟨some 27,.indexAddr 78 (.tmp 16) (.tmp 17),0,"slices.go:485",#[⟨2,.data⟩,⟨3,.data⟩,⟨0,.phase⟩,⟨1,.phase⟩,⟨2,.phase⟩,⟨3,.phase⟩,⟨4,.phase⟩,⟨5,.phase⟩,⟨6,.phase⟩,⟨7,.phase⟩,⟨8,.phase⟩,⟨9,.phase⟩,⟨10,.phase⟩,⟨11,.phase⟩,⟨12,.phase⟩,⟨13,.phase⟩],none⟩
def oRe3_15:Oper:=⟨none,.store 87 (.tmp 27) (.tmp 25),0,"slices.go:485",#[⟨14,.data⟩,⟨11,.data⟩,⟨13,.chain⟩,⟨0,.phase⟩,⟨1,.phase⟩,⟨2,.phase⟩,⟨3,.phase⟩,⟨4,.phase⟩,⟨5,.phase⟩,⟨6,.phase⟩,⟨7,.phase⟩,⟨8,.phase⟩,⟨9,.phase⟩,⟨10,.phase⟩,⟨11,.phase⟩,⟨12,.phase⟩,⟨13,.phase⟩],none⟩
def opsRev3:List Oper:=[oRe3_0,oRe3_1,oRe3_2,oRe3_3,oRe3_4,oRe3_5,oRe3_6,oRe3_7,oRe3_8,oRe3_9,oRe3_10,oRe3_11,oRe3_12,oRe3_13,oRe3_14,oRe3_15]
theorem regRev3 {w:World}{x1 x4 x5 x6 x7 x8 x9 x10 x11 x12 x13 x14 x15 x16 x17 x18 x19 x20 x21 x22 x23 x24 x25 x26 x27:Value}{Q:Exit→Act→World→Prop}{g n cap B i j:Nat}{xs:List (List Int)}
  (h:OwX 87 7 EI w B (.slice (some ⟨g,0,none⟩) n cap) n xs) (hi:i < n) (hj:j < n) (hB:B≤g)
  (hfin:∀(y7 y11 _y13 _y15:Value) (W:World),(∃zs:List (List Int),OwX 87 7 EI W B (.slice (some ⟨g,0,none⟩) n cap) n zs∧Below B w W)→(∃a0 a1 a2 a3 a4 a5 a6:Int,y7 = .agg #[.int .i64 a0,.int .i64 a1,.int .i64 a2,.int .i64 a3,.int .i64 a4,.int .i64 a5,.int .i64 a6])→(∃a0 a1 a2 a3 a4 a5 a6:Int,y11 = .agg #[.int .i64 a0,.int .i64 a1,.int .i64 a2,.int .i64 a3,.int .i64 a4,.int .i64 a5,.int .i64 a6])→(True)→(True)→Q .normal ⟨#[.slice (some ⟨g,0,none⟩) n cap,x1,.int .i64 (i:Int),.int .i64 (j:Int),x4,x5,x6,x7,x8,x9,x10,x11,x12,x13,.slice (some ⟨g,0,none⟩) n cap,.int .i64 (i:Int),.slice (some ⟨g,0,none⟩) n cap,.int .i64 (j:Int),.slice (some ⟨g,0,none⟩) n cap,.int .i64 (j:Int),.pointer (some ⟨g,j * 7,none⟩),y7,.slice (some ⟨g,0,none⟩) n cap,.int .i64 (i:Int),.pointer (some ⟨g,i * 7,none⟩),y11,.pointer (some ⟨g,i * 7,none⟩),.pointer (some ⟨g,j * 7,none⟩)],[]⟩ W) :
  (Code.region 3 opsRev3.toArray true).wp Tryz.prog Q ⟨#[.slice (some ⟨g,0,none⟩) n cap,x1,.int .i64 (i:Int),.int .i64 (j:Int),x4,x5,x6,x7,x8,x9,x10,x11,x12,x13,x14,x15,x16,x17,x18,x19,x20,x21,x22,x23,x24,x25,x26,x27],[]⟩ w:=by
 have hii:(i:Int) < (n:Int):=by omega
 have hji:(j:Int) < (n:Int):=by omega
 obtain⟨SG,hSG⟩:=exS (StepG Tryz.prog opsRev3.toArray (fun ys=>⟨#[.slice (some ⟨g,0,none⟩) n cap,x1,.int .i64 (i:Int),.int .i64 (j:Int),x4,x5,x6,x7,x8,x9,x10,x11,x12,x13,ys 0,ys 1,ys 2,ys 3,ys 4,ys 5,ys 6,ys 7,ys 8,ys 9,ys 10,ys 11,ys 12,ys 14],[]⟩) [eqV (.slice (some ⟨g,0,none⟩) n cap),eqV (.int .i64 (i:Int)),eqV (.slice (some ⟨g,0,none⟩) n cap),eqV (.int .i64 (j:Int)),eqV (.slice (some ⟨g,0,none⟩) n cap),eqV (.int .i64 (j:Int)),eqV (.pointer (some ⟨g,j * 7,none⟩)),fun _ v=>∃a0 a1 a2 a3 a4 a5 a6:Int,v = .agg #[.int .i64 a0,.int .i64 a1,.int .i64 a2,.int .i64 a3,.int .i64 a4,.int .i64 a5,.int .i64 a6],eqV (.slice (some ⟨g,0,none⟩) n cap),eqV (.int .i64 (i:Int)),eqV (.pointer (some ⟨g,i * 7,none⟩)),fun _ v=>∃a0 a1 a2 a3 a4 a5 a6:Int,v = .agg #[.int .i64 a0,.int .i64 a1,.int .i64 a2,.int .i64 a3,.int .i64 a4,.int .i64 a5,.int .i64 a6],eqV (.pointer (some ⟨g,i * 7,none⟩)),anyV,eqV (.pointer (some ⟨g,j * 7,none⟩)),anyV] (fun _ _=>True) (fun _ _ W=>∃zs:List (List Int),OwX 87 7 EI W B (.slice (some ⟨g,0,none⟩) n cap) n zs∧Below B w W) Q)
 have st0:SG 0 oRe3_0:=by
  subst hSG;refine StepG.mk rfl fun ys D W K _ _ _ hG hK=>?_;unfold oRe3_0;go_simp;exact hK _ _ trivial hG rfl
 have st1:SG 1 oRe3_1:=by
  subst hSG;refine StepG.mk rfl fun ys D W K _ _ _ hG hK=>?_;unfold oRe3_1;go_simp;exact hK _ _ trivial hG rfl
 have st2:SG 2 oRe3_2:=by
  subst hSG;refine StepG.mk rfl fun ys D W K _ _ _ hG hK=>?_;unfold oRe3_2;go_simp;exact hK _ _ trivial hG rfl
 have st3:SG 3 oRe3_3:=by
  subst hSG;refine StepG.mk rfl fun ys D W K _ _ _ hG hK=>?_;unfold oRe3_3;go_simp;exact hK _ _ trivial hG rfl
 have st4:SG 4 oRe3_4:=by
  subst hSG;refine StepG.mk rfl fun ys D W K _ _ _ hG hK=>?_;unfold oRe3_4;go_simp;exact hK _ _ trivial hG rfl
 have st5:SG 5 oRe3_5:=by
  subst hSG;refine StepG.mk rfl fun ys D W K _ _ _ hG hK=>?_;unfold oRe3_5;go_simp;exact hK _ _ trivial hG rfl
 have st6:SG 6 oRe3_6:=by
  subst hSG;refine StepG.mk rfl (openY 4 fun y4=>openY 5 fun y5=>fun ys D W K _ _ hd hG hK=>?_);have e4:y4=_:=(hd.get 4 rfl).2;have e5:y5=_:=(hd.get 5 rfl).2;subst e4 e5;simp only[updG,Nat.reduceEqDiff,reduceIte];unfold oRe3_6;go_simp;exact hK _ _ trivial hG rfl
 have st7:SG 7 oRe3_7:=by
  subst hSG;refine StepG.mk rfl (openY 6 fun y6=>fun ys D W K _ _ hd hG hK=>?_);have e6:y6=_:=(hd.get 6 rfl).2;subst e6;simp only[updG,Nat.reduceEqDiff,reduceIte];unfold oRe3_7;obtain⟨zs,hO,hb⟩:=hG;obtain⟨h7,hI⟩:=hO.intCells hj;obtain⟨a0,a1,a2,a3,a4,a5,a6,ha⟩:=seven h7;rw[ha] at hI;obtain⟨c0,c1,c2,c3,c4,c5,c6⟩:=hI.all7;go_simp;exact hK _ _ trivial ⟨zs,hO,hb⟩ ⟨a0,a1,a2,a3,a4,a5,a6,rfl⟩
 have st8:SG 8 oRe3_8:=by
  subst hSG;refine StepG.mk rfl fun ys D W K _ _ _ hG hK=>?_;unfold oRe3_8;go_simp;exact hK _ _ trivial hG rfl
 have st9:SG 9 oRe3_9:=by
  subst hSG;refine StepG.mk rfl fun ys D W K _ _ _ hG hK=>?_;unfold oRe3_9;go_simp;exact hK _ _ trivial hG rfl
 have st10:SG 10 oRe3_10:=by
  subst hSG;refine StepG.mk rfl (openY 8 fun y8=>openY 9 fun y9=>fun ys D W K _ _ hd hG hK=>?_);have e8:y8=_:=(hd.get 8 rfl).2;have e9:y9=_:=(hd.get 9 rfl).2;subst e8 e9;simp only[updG,Nat.reduceEqDiff,reduceIte];unfold oRe3_10;go_simp;exact hK _ _ trivial hG rfl
 have st11:SG 11 oRe3_11:=by
  subst hSG;refine StepG.mk rfl (openY 10 fun y10=>fun ys D W K _ _ hd hG hK=>?_);have e10:y10=_:=(hd.get 10 rfl).2;subst e10;simp only[updG,Nat.reduceEqDiff,reduceIte];unfold oRe3_11;obtain⟨zs,hO,hb⟩:=hG;obtain⟨h7,hI⟩:=hO.intCells hi;obtain⟨a0,a1,a2,a3,a4,a5,a6,ha⟩:=seven h7;rw[ha] at hI;obtain⟨c0,c1,c2,c3,c4,c5,c6⟩:=hI.all7;go_simp;exact hK _ _ trivial ⟨zs,hO,hb⟩ ⟨a0,a1,a2,a3,a4,a5,a6,rfl⟩
 have st12:SG 12 oRe3_12:=by
  subst hSG;refine StepG.mk rfl (openY 0 fun y0=>openY 1 fun y1=>fun ys D W K _ _ hd hG hK=>?_);have e0:y0=_:=(hd.get 0 rfl).2;have e1:y1=_:=(hd.get 1 rfl).2;subst e0 e1;simp only[updG,Nat.reduceEqDiff,reduceIte];unfold oRe3_12;go_simp;exact hK _ _ trivial hG rfl
 have st13:SG 13 oRe3_13:=by
  subst hSG;refine StepG.mk rfl (openY 12 fun y12=>openY 7 fun y7=>fun ys D W K _ _ hd hG hK=>?_);have e12:y12=_:=(hd.get 12 rfl).2;obtain⟨d7,e7⟩:D 7=true∧(∃a0 a1 a2 a3 a4 a5 a6:Int,y7 = .agg #[.int .i64 a0,.int .i64 a1,.int .i64 a2,.int .i64 a3,.int .i64 a4,.int .i64 a5,.int .i64 a6]):=hd.get 7 rfl;subst e12;simp only[updG,Nat.reduceEqDiff,reduceIte];unfold oRe3_13;obtain⟨zs,hO,hb⟩:=hG;obtain⟨a0,a1,a2,a3,a4,a5,a6,rfl⟩:=e7;obtain⟨h7,hI⟩:=hO.intCells hi;obtain⟨b0,b1,b2,b3,b4,b5,b6,hb7⟩:=seven h7;rw[hb7] at hI;obtain⟨c0,c1,c2,c3,c4,c5,c6⟩:=hI.all7;have hfz:∀p,W.frozen? ⟨g,p,none⟩=false:=fun p=>hO.frozen p;have hst:=hO.store7 hi a0 a1 a2 a3 a4 a5 a6;have hbb:=below7 (a:=i * 7) (b:=i * 7+1) (c:=i * 7+2) (d:=i * 7+3) (e:=i * 7+4) (f:=i * 7+5) (i:=i * 7+6) (va:=.int .i64 a0) (vb:=.int .i64 a1) (vc:=.int .i64 a2) (vd:=.int .i64 a3) (ve:=.int .i64 a4) (vf:=.int .i64 a5) (vi:=.int .i64 a6) hb hB;go_simp;exact hK undef _ trivial ⟨_,hst,hbb⟩ trivial
 have st14:SG 14 oRe3_14:=by
  subst hSG;refine StepG.mk rfl (openY 2 fun y2=>openY 3 fun y3=>fun ys D W K _ _ hd hG hK=>?_);have e2:y2=_:=(hd.get 2 rfl).2;have e3:y3=_:=(hd.get 3 rfl).2;subst e2 e3;simp only[updG,Nat.reduceEqDiff,reduceIte];unfold oRe3_14;go_simp;exact hK _ _ trivial hG rfl
 have st15:SG 15 oRe3_15:=by
  subst hSG;refine StepG.mk rfl (openY 14 fun y14=>openY 11 fun y11=>fun ys D W K _ _ hd hG hK=>?_);have e14:y14=_:=(hd.get 14 rfl).2;obtain⟨d11,e11⟩:D 11=true∧(∃a0 a1 a2 a3 a4 a5 a6:Int,y11 = .agg #[.int .i64 a0,.int .i64 a1,.int .i64 a2,.int .i64 a3,.int .i64 a4,.int .i64 a5,.int .i64 a6]):=hd.get 11 rfl;subst e14;simp only[updG,Nat.reduceEqDiff,reduceIte];unfold oRe3_15;obtain⟨zs,hO,hb⟩:=hG;obtain⟨a0,a1,a2,a3,a4,a5,a6,rfl⟩:=e11;obtain⟨h7,hI⟩:=hO.intCells hj;obtain⟨b0,b1,b2,b3,b4,b5,b6,hb7⟩:=seven h7;rw[hb7] at hI;obtain⟨c0,c1,c2,c3,c4,c5,c6⟩:=hI.all7;have hfz:∀p,W.frozen? ⟨g,p,none⟩=false:=fun p=>hO.frozen p;have hst:=hO.store7 hj a0 a1 a2 a3 a4 a5 a6;have hbb:=below7 (a:=j * 7) (b:=j * 7+1) (c:=j * 7+2) (d:=j * 7+3) (e:=j * 7+4) (f:=j * 7+5) (i:=j * 7+6) (va:=.int .i64 a0) (vb:=.int .i64 a1) (vc:=.int .i64 a2) (vd:=.int .i64 a3) (ve:=.int .i64 a4) (vf:=.int .i64 a5) (vi:=.int .i64 a6) hb hB;go_simp;exact hK undef _ trivial ⟨_,hst,hbb⟩ trivial
 subst hSG;refine wp_region_sg (l:=opsRev3) ⟨st0,st1,st2,st3,st4,st5,st6,st7,st8,st9,st10,st11,st12,st13,st14,st15,trivial⟩ (fun i=>([x14,x15,x16,x17,x18,x19,x20,x21,x22,x23,x24,x25,x26,undef,x27,undef]:List Value).getD i undef) (by kernel_rfl) (by kernel_rfl) ⟨sE,sE,sE,sE,sE,sE,sE,fun _ _ _ h _=>h,sE,sE,sE,fun _ _ _ h _=>h,sE,fun _ _ _ h _=>h,sE,fun _ _ _ h _=>h,trivial⟩ ?g0 ?gx ?fin
 case g0=>exact⟨xs,h.keep (EI.stab _) (below_drewN (Below.refl _ w) 1),below_drewN (Below.refl _ w) 1⟩
 case gx=>exact fun _ _ _ _ _ h=>h
 case fin=>
  intro ys W hG hp;rw[(hp 0 (by decide):ys 0=_),(hp 1 (by decide):ys 1=_),(hp 2 (by decide):ys 2=_),(hp 3 (by decide):ys 3=_),(hp 4 (by decide):ys 4=_),(hp 5 (by decide):ys 5=_),(hp 6 (by decide):ys 6=_),(hp 8 (by decide):ys 8=_),(hp 9 (by decide):ys 9=_),(hp 10 (by decide):ys 10=_),(hp 12 (by decide):ys 12=_),(hp 14 (by decide):ys 14=_)];exact hfin (ys 7) (ys 11) (ys 13) (ys 15) W hG (hp 7 (by decide)) (hp 11 (by decide)) (hp 13 (by decide)) (hp 15 (by decide))
theorem reverseC {w:World}{B g n cap:Nat}{xs:List (List Int)}(h:OwX 87 7 EI w B (.slice (some ⟨g,0,none⟩) n cap) n xs) (h0:0 < n) (hn:n≤1000000) (hB:B≤g) :
  Calls Tryz.prog 177 #[.slice (some ⟨g,0,none⟩) n cap] w fun e w'=>e = .returned (.tuple #[])∧∃zs:List (List Int),OwX 87 7 EI w' B (.slice (some ⟨g,0,none⟩) n cap) n zs∧Below B w w':=by
 have hw:IntKind.i64.wrap ((n:Int) - 1)=(n:Int) - 1:=IntWalk.i64_in _ (by omega);have hh:=qH h;clear h;go_enter Tryz.func177, Tryz.ntmps177
 go_wp2_with fail
 go_loopw [2,3] (fun iv jv wr=>∃(i:Nat) (zs:List (List Int)),iv = .int .i64 i∧jv = .int .i64 ((n:Int) - 1 - (i:Int))∧i≤n∧Hid (OwX 87 7 EI wr B (.slice (some ⟨g,0,none⟩) n cap) n zs)∧Below B w wr) (fun iv _ _=>n - (intOf iv).toNat)
 case atStart=>exact⟨0,xs,rfl,by congr 1;omega,by omega,hh,Below.refl _ _⟩
 case round=>
  clear hh;obtain⟨i,zs,rfl,rfl,hi,hO,hb⟩:=hrel;by_cases hlt:(i:Int) < (n:Int) - 1 - (i:Int)
  ·obtain⟨j,hj⟩:∃j:Nat,(n:Int) - 1 - (i:Int)=(j:Int):=⟨n - 1 - i,by omega⟩;rw[hj] at hlt⊢;have hin:i < n:=(by omega);have hjn:j < n:=(by omega);have hw2:IntKind.i64.wrap ((j:Int) - 1)=(j:Int) - 1:=IntWalk.i64_in _ (by omega);have hj2:Hid ((j:Int) - 1=(n:Int) - 1 - ((i+1:Nat):Int)):=(by show _=_;omega);replace hj:=qH hj;go_upto_region 3 with fail
   refine regRev3 hO.out hin hjn hB ?_;intro _ _ _ _ W ⟨zs2,hO2,hb2⟩ _ _ _ _;replace hO2:=qH hO2;have hb3:=hb.trans hb2;clear hO hb hb2;go_wp2_with fail
   go_roundw
   case rel=>exact⟨i+1,zs2,by go_num,by rw[←hj2.out],by omega,hO2,hb3⟩
   case measure=>simp[intOf];omega
  ·have hd:decide ((i:Int) < (n:Int) - 1 - (i:Int))=false:=decide_eq_false hlt;have hfin:=qH hO;clear hO;go_wp2_with fail
   go_end0
   refine⟨rfl,?_⟩;exact⟨⟨zs,hfin.out.out⟩,hb⟩
def VisOK (vis:List (List Int)):Prop:=∀k,k < vis.length→0 < k→0≤(vis.getD k []).getD 2 0∧(vis.getD k []).getD 2 0 < (k:Int)
theorem ten {x:List Int}(h:x.length=10):∃a b c d e f g i j k,x = [a,b,c,d,e,f,g,i,j,k]:=by
 match x,h with
 | [a,b,c,d,e,f,g,i,j,k],_=>exact⟨a,b,c,d,e,f,g,i,j,k,rfl⟩
theorem CI.all10 {w:World}{b o:Nat}{x0 x1 x2 x3 x4 x5 x6 x7 x8 x9:Int}(h:CI w b o [x0,x1,x2,x3,x4,x5,x6,x7,x8,x9]) :
  (w.cell? ⟨b,o,none⟩=some (.int .i64 x0)∧w.cell? ⟨b,o+1,none⟩=some (.int .i64 x1)∧w.cell? ⟨b,o+2,none⟩=some (.int .i64 x2))∧w.cell? ⟨b,o+3,none⟩=some (.int .i64 x3)∧w.cell? ⟨b,o+4,none⟩=some (.int .i64 x4)∧w.cell? ⟨b,o+5,none⟩=some (.int .i64 x5)∧w.cell? ⟨b,o+6,none⟩=some (.int .i64 x6)∧w.cell? ⟨b,o+7,none⟩=some (.int .i64 x7)∧w.cell? ⟨b,o+8,none⟩=some (.int .i64 x8)∧w.cell? ⟨b,o+9,none⟩=some (.int .i64 x9):=
 ⟨⟨h 0 (by simp),h 1 (by simp),h 2 (by simp)⟩,h 3 (by simp),h 4 (by simp),h 5 (by simp),h 6 (by simp),h 7 (by simp),h 8 (by simp),h 9 (by simp)⟩
theorem wordC {w:World}{la:Option Addr}{n lc i:Nat}{vis:List (List Int)}(h:OwX 174 10 EI w 0 (.slice la n lc) n vis) (hv:VisOK vis) (hi:i < n) (hn:n≤100000) (r0 r1 r2 r3 r4 r5 r6:Int) :
  Calls Tryz.prog 124 #[.slice la n lc,.int .i64 (i:Int),.agg #[.int .i64 r0,.int .i64 r1,.int .i64 r2,.int .i64 r3,.int .i64 r4,.int .i64 r5,.int .i64 r6]] w fun e w'=>∃p m c ws,e = .returned (.slice (some p) m c)∧0 < m∧OwX 87 7 EI w' w.heap.size (.slice (some p) m c) m ws∧Below w.heap.size w w':=by
 obtain⟨g,cap,he,_⟩:=h.form (by omega);injection he with he1 he2 he3;subst he1 he3;have hl:=h.length;obtain⟨W1,hW1⟩:=exF ((w.alloc (.cells #[.int .i64 r0,.int .i64 r1,.int .i64 r2,.int .i64 r3,.int .i64 r4,.int .i64 r5,.int .i64 r6] 87)).alloc (.cells #[.int .i64 r0,.int .i64 r1,.int .i64 r2,.int .i64 r3,.int .i64 r4,.int .i64 r5,.int .i64 r6] 87));have hb1:Below w.heap.size w W1:=by rw[hW1];exact((Below.refl _ w).alloc (Nat.le_refl _) _).alloc (by simp) _
 have hk0:W1.heap[w.heap.size+1]? = some (.cells #[.int .i64 r0,.int .i64 r1,.int .i64 r2,.int .i64 r3,.int .i64 r4,.int .i64 r5,.int .i64 r6] 87):=by
  rw[hW1];have:=World.alloc_heap_new (w.alloc (.cells #[.int .i64 r0,.int .i64 r1,.int .i64 r2,.int .i64 r3,.int .i64 r4,.int .i64 r5,.int .i64 r6] 87)) (.cells #[.int .i64 r0,.int .i64 r1,.int .i64 r2,.int .i64 r3,.int .i64 r4,.int .i64 r5,.int .i64 r6] 87)
  rwa [World.size_alloc] at this
 have hO0:OwX 87 7 EI W1 w.heap.size (.slice (some ⟨w.heap.size+1,0,none⟩) 1 1) 1 [[r0,r1,r2,r3,r4,r5,r6]]:=
  OwX.ofFlat ⟨rfl,.inr ⟨w.heap.size+1,1,_,rfl,by omega,hk0,Nat.le_refl _,by decide,rfl,rfl⟩⟩ (fun x hx=>by rw[List.mem_singleton] at hx;subst hx;rfl) rfl
 have hc7:Hid (∀a0 a1 a2 a3 a4 a5 a6:Int,∀u∈(#[.int .i64 a0,.int .i64 a1,.int .i64 a2,.int .i64 a3,.int .i64 a4,.int .i64 a5,.int .i64 a6]:Array Value).toList,u.oneCell'=true):=fun a0 a1 a2 a3 a4 a5 a6 u hu=>by
  simp only[List.mem_cons,List.not_mem_nil,or_false] at hu;rcases hu with rfl|rfl|rfl|rfl|rfl|rfl|rfl<;>rfl
 have hbox:=(box7CI (x0:=r0) (x1:=r1) (x2:=r2) (x3:=r3) (x4:=r4) (x5:=r5) (x6:=r6) (show(w.alloc (.cells #[.int .i64 r0,.int .i64 r1,.int .i64 r2,.int .i64 r3,.int .i64 r4,.int .i64 r5,.int .i64 r6] 87)).heap[w.heap.size]? = _ from heap_alloc_new w _)).all7;simp only[Nat.zero_add] at hbox;obtain⟨x0,x1,x2,x3,x4,x5,x6⟩:=hbox;have hh:=qH h;replace hO0:=qH hO0;replace hv:=qH hv;clear h hk0;go_enter Tryz.func124, Tryz.ntmps124
 go_wp2_with fail
 rw[←hW1];replace hW1:=qH hW1;clear x0 x1 x2 x3 x4 x5 x6;go_loopw [1,7] (fun iv ov wr=>∃(i m:Nat) (ws:List (List Int)),iv = .int .i64 i∧i < n∧0 < m∧m+i≤n∧Hid (OwX 87 7 EI wr w.heap.size ov m ws)∧Below w.heap.size w wr) (fun iv _ _=>(intOf iv).toNat)
 case atStart=>exact⟨i,1,_,rfl,hi,by omega,by omega,hO0,hb1⟩
 case round=>
  clear hO0 hi;obtain⟨i,m,ws,rfl,hi,hm,hmi,hO,hb⟩:=hrel;by_cases hlt:0 < i
  ·obtain⟨h10,hI⟩:=(hh.out.keep (EI.stab _) hb).intCells hi;obtain⟨f0,f1⟩:=hv.out i (by rw[hl];exact hi) hlt;obtain⟨a,b,f,d0,d1,d2,d3,d4,d5,d6,hx⟩:=ten h10;rw[hx] at hI f0 f1;obtain⟨⟨_,_,c2⟩,c3,c4,c5,c6,c7,c8,c9⟩:=hI.all10;replace f0:0≤f:=f0;replace f1:f < (i:Int):=f1;obtain⟨q,rfl⟩:∃q:Nat,f=(q:Int):=⟨f.toNat,by omega⟩;obtain⟨oa,oc,hov⟩:=hO.out.shape;subst hov;have hii:(i:Int) < (n:Int):=(by omega);have hi0:(0:Int) < (i:Int):=(by omega);have hm9:m≤1000000000000:=(by omega);have hE:EI wr [.int .i64 d0,.int .i64 d1,.int .i64 d2,.int .i64 d3,.int .i64 d4,.int .i64 d5,.int .i64 d6] [d0,d1,d2,d3,d4,d5,d6]:=rfl;have hOo:=hO.out;clear hI hx h10 hO;go_wp2_with (at_builtin;refine wpAppX elemRd (by decide) (by decide) (EI.stab _) rfl _ _ rfl rfl hOo rfl rfl rfl (hc7.out _ _ _ _ _ _ _) hE hm9 hb.size ?_)
   intro v' w2 hrow _ hb2 _;obtain⟨va,vc,hvs⟩:=hrow.shape;subst hvs;have e2:=cell_kept (p:=⟨g,i * 10+2,none⟩) (Below.refl _ wr) c2;have hbr:=hb.trans hb2;obtain⟨h10,hI⟩:=(hh.out.keep (EI.stab _) hbr).intCells hi
   have e2':w2.cell? ⟨g,i * 10+2,none⟩=some (.int .i64 (q:Int)):=by
    have hg0:w.heap[g]? ≠ none:=by
     obtain⟨vs,k1,_⟩:=hh.out;obtain⟨cs,hcs⟩:=ownsRow_ty k1 g rfl;rw[hcs];exact fun e=>by cases e
    have hgl:g < w.heap.size:=by
     rcases Nat.lt_or_ge g w.heap.size with h|h
     ·exact h
     ·exact absurd (Array.getElem?_eq_none h) hg0
    exact(World.cell?_of_block (a:=⟨g,i * 10+2,none⟩) (hb2.block g hgl)).trans c2
   replace hrow:=qH hrow;clear hOo hI h10 c2 c3 c4 c5 c6 c7 c8 c9 e2;go_wp2_with fail
   go_roundw
   case rel=>exact⟨q,m+1,_,rfl,by omega,by omega,by omega,hrow,hbr⟩
   case measure=>simp[intOf];omega
  ·obtain rfl:i=0:=(by omega);obtain⟨g2,cap2,hov,hg2⟩:=hO.out.form hm;subst hov;have HR:=qH (reverseC hO.out hm (by omega) hg2);clear hO;go_wp2_with fail
   refine HR.out.mono ?_;rintro e w2 ⟨rfl,zs,hO2,hb2⟩;replace hO2:=qH hO2;go_wp2_with fail
   go_ret;exact⟨_,m,_,zs,rfl,hm,hO2.out,hb.trans hb2⟩
theorem diffC {w:World}{r0 r1 r2 r3 r4 r5 r6 a b:Int} :
  Calls Tryz.prog 87 #[.agg #[.int .i64 r0,.int .i64 r1,.int .i64 r2,.int .i64 r3,.int .i64 r4,.int .i64 r5,.int .i64 r6,.int .i64 a,.int .i64 b]] w fun e w'=>e = .returned (.bool (decide (a < 0∨b < 0)))∧Below w.heap.size w w':=by
 have hb:=(Below.refl w.heap.size w).alloc (Nat.le_refl _) (.cells #[.int .i64 r0,.int .i64 r1,.int .i64 r2,.int .i64 r3,.int .i64 r4,.int .i64 r5,.int .i64 r6,.int .i64 a,.int .i64 b] 134);have k0:=heap_alloc_new w (.cells #[.int .i64 r0,.int .i64 r1,.int .i64 r2,.int .i64 r3,.int .i64 r4,.int .i64 r5,.int .i64 r6,.int .i64 a,.int .i64 b] 134);have c7:=box_cell k0 (j:=7) (v:=.int .i64 a) rfl;have c8:=box_cell k0 (j:=8) (v:=.int .i64 b) rfl;by_cases h1:a < 0
 ·have hd:decide (a < 0∨b < 0)=true:=decide_eq_true (.inl h1);rw[hd];have hd1:decide (a < 0)=true:=decide_eq_true h1;go_enter Tryz.func87, Tryz.ntmps87
  go_wp2;go_ret;exact⟨rfl,hb⟩
 ·have hd:decide (a < 0∨b < 0)=decide (b < 0):=by simp[h1]
  rw[hd];have hd1:decide (a < 0)=false:=decide_eq_false h1;go_enter Tryz.func87, Tryz.ntmps87
  go_wp2;go_ret;exact⟨rfl,hb⟩
end Go.Proofs.YtmikofeildnpdaaGreat
