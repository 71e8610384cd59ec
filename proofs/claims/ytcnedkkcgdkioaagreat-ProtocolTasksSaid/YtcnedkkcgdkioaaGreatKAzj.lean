/- Texts of this claim, put together: PW QN1 Y0 QR. -/
import Derived.Test.YtcnedkkcgdkioaaGreatKAzi
import Derived.Lib.SmallJoins

set_option maxRecDepth 100000
set_option maxHeartbeats 12800000
namespace Go.Proofs.YtcnedkkcgdkioaaGreat
open Go.RowKit
theorem exSys {w:World}{v:Value}(h:SysV w v 2 2 1 exCs 2 exSS 1 2 exVs exXs):Calls Tryz.prog 19 #[v] w fun e w'=>∃a c,e = .returned (.tuple #[.agg #[.slice a 4 c],.int .i64 0])∧KSS 2 w' (.slice a 4 c) exC1∧Below w.heap.size w w':=by
 refine(protComplex h exFew).mono ?_;rintro e w' ⟨v',rfl,hc,hb⟩
 have he:(if verE 2 2 1 exCs 2 exSS 1 2 exVs exXs=0 then maxX (simsX (2:Int).toNat (1:Int).toNat exXs (-1)) else [])=exC1:=by
  rw[if_pos exVer];exact exCx1
 rw[he] at hc;obtain⟨a,c,rfl,hO⟩:=hc;exact⟨a,c,by rw[exVer];rfl,(hO.kssc (by decide) (by decide)).kss,hb⟩
theorem exSysC {w:World}{v:Value}(h:SysV w v 2 2 1 exCs 2 exSS 1 2 exVs exXs):Calls Tryz.prog 21 #[v,.int .i64 0] w fun e w'=>∃a c,e = .returned (.tuple #[.agg #[.slice a 2 c],.int .i64 0])∧KSS 2 w' (.slice a 2 c) exC2∧Below w.heap.size w w':=by
 refine(protCase h exFew).mono ?_;rintro e w' ⟨v',rfl,hc,hb⟩;have hE:casE (verE 2 2 1 exCs 2 exSS 1 2 exVs exXs) 0 exCs.length=0:=by rw[exVer];rfl
 have he:(if casE (verE 2 2 1 exCs 2 exSS 1 2 exVs exXs) 0 exCs.length=0 then maxX (simsX (2:Int).toNat (1:Int).toNat exXs 0) else [])=exC2:=by
  rw[if_pos hE];exact exCx2
 rw[he] at hc;obtain⟨a,c,rfl,hO⟩:=hc;exact⟨a,c,by rw[hE];rfl,(hO.kssc (by decide) (by decide)).kss,hb⟩
theorem exSysP {w:World}{v:Value}(h:SysV w v 2 2 1 exCs 2 exSS 1 2 exVs exXs):Calls Tryz.prog 12 #[v] w fun e w'=>∃v',e = .returned (.tuple #[v',.int .i64 0])∧MapV w' v' exFrom exTo∧Below w.heap.size w w':=by
 refine(protProject h exFew).mono ?_;rintro e w' ⟨v',rfl,hc,hb⟩
 have h1:(if verE 2 2 1 exCs 2 exSS 1 2 exVs exXs=0 then ptsX (maxX (simsX (2:Int).toNat (1:Int).toNat exXs (-1))) else [])=exFrom:=by
  rw[if_pos exVer];exact(congrArg ptsX exCx1).trans exPts
 have h2:(if verE 2 2 1 exCs 2 exSS 1 2 exVs exXs=0 then prjX exVs (ptsX (maxX (simsX (2:Int).toNat (1:Int).toNat exXs (-1)))) else [])=exTo:=by
  rw[if_pos exVer];exact(congrArg (prjX exVs) ((congrArg ptsX exCx1).trans exPts)).trans exPrj
 rw[h1,h2] at hc;exact⟨v',by rw[exVer],hc,hb⟩
theorem exSysK {w:World}{v u:Value}{l:List (List Int)}{L:List Int}(h:SysV w v 2 2 1 exCs 2 exSS 1 2 exVs exXs) (hl:KS 2 w u l) (h0:chkS l=0) (hL:csL 2 1 exXs l 2=L):Calls Tryz.prog 16 #[v,u] w fun e w'=>∃u',e = .returned (.tuple #[u',.int .i64 0])∧Ints w' u' L∧Below w.heap.size w w':=by
 refine(protCases h hl exFew (by decide)).mono ?_;rintro e w' ⟨v',rfl,hc,hb⟩;have hE:csE (verE 2 2 1 exCs 2 exSS 1 2 exVs exXs) l=0:=by rw[exVer];unfold csE;rw[if_neg (fun h=>h rfl)];exact h0
 have he:(if csE (verE 2 2 1 exCs 2 exSS 1 2 exVs exXs) l=0 then csL (2:Int).toNat (1:Int).toNat exXs l exCs.length else [])=L:=by
  rw[if_pos hE];exact hL
 rw[he] at hc;exact⟨v',by rw[hE],hc,hb⟩
theorem exBuild {w:World}{v:Value}(h:PrV w v 2 2 1 exCs 2 exSS 1):Calls Tryz.prog 28 #[v] w fun e w'=>∃v',e = .returned (.tuple #[v',.int .i64 0])∧SysV w' v' 2 2 1 exCs 2 exSS 1 2 exVs exXs∧Below w.heap.size w w':=by
 refine(buildAll h exFew).mono ?_;rintro e w' ⟨hB,hb⟩;rcases hB with⟨h1,_⟩|⟨_,v',h2,h3⟩
 ·exact absurd exBld h1
 ·exact⟨v',h2,h3,hb⟩
theorem ksLit5 {w:World}{b:Nat}{a0 a1 a2 a3 a4 b0 b1 b2 b3 b4:Int}(h:w.heap[b]? = some (.cells #[.int .i64 a0,.int .i64 b0,.int .i64 a1,.int .i64 b1,.int .i64 a2,.int .i64 b2,.int .i64 a3,.int .i64 b3,.int .i64 a4,.int .i64 b4] 83)) :
  KS 2 w (.slice (some ⟨b,0,none⟩) 5 5) [[a0,b0],[a1,b1],[a2,b2],[a3,b3],[a4,b4]]∧KS 2 w (.slice (some ⟨b,0,none⟩) 1 5) [[a0,b0]]:=by
 have hc:∀j,j < 5→(([[a0,b0],[a1,b1],[a2,b2],[a3,b3],[a4,b4]]:List (List Int)).getD j []).length=2∧CI w b (j * 2) (([[a0,b0],[a1,b1],[a2,b2],[a3,b3],[a4,b4]]:List (List Int)).getD j []):=fun j hj=>by
  match j,hj with
  | 0,_=>exact⟨rfl,fun i hi=>by
    match i,hi with
    | 0,_=>exact box_cell h rfl
    | 1,_=>exact box_cell h rfl⟩
  | 1,_=>exact⟨rfl,fun i hi=>by
    match i,hi with
    | 0,_=>exact box_cell h rfl
    | 1,_=>exact box_cell h rfl⟩
  | 2,_=>exact⟨rfl,fun i hi=>by
    match i,hi with
    | 0,_=>exact box_cell h rfl
    | 1,_=>exact box_cell h rfl⟩
  | 3,_=>exact⟨rfl,fun i hi=>by
    match i,hi with
    | 0,_=>exact box_cell h rfl
    | 1,_=>exact box_cell h rfl⟩
  | 4,_=>exact⟨rfl,fun i hi=>by
    match i,hi with
    | 0,_=>exact box_cell h rfl
    | 1,_=>exact box_cell h rfl⟩
 refine⟨⟨_,_,b,0,rfl,fun _=>rfl,fun j hj=>?_,by simp⟩,⟨_,_,b,0,rfl,fun _=>rfl,fun j hj=>?_,by simp⟩⟩
 ·rw[Nat.zero_add];exact hc j hj
 ·have hj:j < 1:=hj;obtain rfl:j=0:=by omega
  rw[Nat.zero_add];exact hc 0 (by decide)
theorem awakeC (w:World):Calls Tryz.prog 11 #[] w fun e w'=>e = .returned (.bool true)∧Below w.heap.size w w':=by
 have HE:=qH (exampleC w);go_enter Tryz.func11, Tryz.ntmps11
 go_wp2_with fail
 refine HE.out.mono ?_;rintro e w1 ⟨v1,rfl,hP1,hb1⟩;have HB:=qH (exBuild hP1);obtain⟨pa,pc,pa',pc',rfl,-⟩:=hP1;clear HE;go_wp2_with fail
 refine HB.out.mono ?_;rintro e w2 ⟨v2,rfl,hS2,hb2⟩;have hS2':=hS2;obtain⟨a,c,a',c',va,vc,xa,xc,hve,-⟩:=hS2';subst hve;clear HB;obtain⟨VA,hVA⟩:∃VA:Array Value,VA = #[.int .i64 2,.int .i64 2,.int .i64 1,.slice a exCs.length c,.int .i64 2,.slice a' exSS.length c',.int .i64 1,.int .i64 2,.slice va exVs.length vc,.slice xa exXs.length xc]:=⟨_,rfl⟩;obtain⟨W3,hW3⟩:=exF (w2.alloc (.cells VA 35));have hb3:Below w2.heap.size w2 W3:=by rw[hW3];exact(Below.refl _ w2).alloc (Nat.le_refl _) _
 have k3:W3.heap[w2.heap.size]? = some (.cells VA 35):=by rw[hW3];exact heap_alloc_new _ _
 subst hVA;have HK:=qH (fun W (hb:Below W3.heap.size W3 W)=>And.intro (keep7 hb (box10' k3).1) (keep3' hb (box10' k3).2));have HS:=qH (fun W (hb:Below W3.heap.size W3 W)=>(hS2.keep hb3).keep hb);have k3h:=qH k3;obtain⟨⟨p0,p1,p2,p3,p4,p5,p6⟩,p7,p8,p9⟩:=HK.out W3 (Below.refl _ _);have hb03:=qH (btt (btt hb1 hb2) hb3);clear k3 hS2 hb1 hb2 hb3;go_upto_region 2 with fail
 rw[←hW3];replace hW3:=qH hW3;have H1:=qH (exSys (HS.out W3 (Below.refl _ _)));go_wp2_with fail
 refine H1.out.mono ?_;rintro e w4 ⟨ca,cc,rfl,hC1,hb4⟩;clear p0 p1 p2 p3 p4 p5 p6 p7 p8 p9 H1;obtain⟨W5,hW5⟩:=exF (w4.alloc (.cells #[.slice ca 4 cc] 57));have hb5:Below w4.heap.size w4 W5:=by rw[hW5];exact(Below.refl _ w4).alloc (Nat.le_refl _) _
 have k5:W5.heap[w4.heap.size]? = some (.cells #[.slice ca 4 cc] 57):=by rw[hW5];exact heap_alloc_new _ _
 have hb35:=btt hb4 hb5;have hC5:=qH (hC1.keep hb5);have k5h:=qH k5;obtain⟨⟨p0,p1,p2,p3,p4,p5,p6⟩,p7,p8,p9⟩:=HK.out W5 hb35;clear k5 hC1 hb4 hb5;go_upto_region 3 with fail
 rw[←hW5];replace hW5:=qH hW5;have H1:=qH (exSysC (HS.out W5 hb35));go_wp2_with fail
 refine H1.out.mono ?_;rintro e w6 ⟨da,dc,rfl,hC2,hb6⟩;clear p0 p1 p2 p3 p4 p5 p6 p7 p8 p9 H1;obtain⟨W7,hW7⟩:=exF (w6.alloc (.cells #[.slice da 2 dc] 57));have hb7:Below w6.heap.size w6 W7:=by rw[hW7];exact(Below.refl _ w6).alloc (Nat.le_refl _) _
 have k7:W7.heap[w6.heap.size]? = some (.cells #[.slice da 2 dc] 57):=by rw[hW7];exact heap_alloc_new _ _
 have hb57:=btt hb6 hb7;have hb37:=btt hb35 hb57;have hC7:=qH (hC2.keep hb7);have k7h:=qH k7;obtain⟨⟨p0,p1,p2,p3,p4,p5,p6⟩,p7,p8,p9⟩:=HK.out W7 hb37;clear k7 hC2 hb6 hb7;go_upto_region 4 with fail
 rw[←hW7];replace hW7:=qH hW7;have H1:=qH (exSysP (HS.out W7 hb37));go_wp2_with fail
 refine H1.out.mono ?_;rintro e w8 ⟨mv,rfl,hM8,hb8⟩;clear p0 p1 p2 p3 p4 p5 p6 p7 p8 p9 H1;have hM8':=hM8;obtain⟨fa,fc,ta,tc,hme,-⟩:=hM8';subst hme;obtain⟨W9,hW9⟩:=exF (w8.alloc (.cells #[.slice fa exFrom.length fc,.slice ta exTo.length tc] 40));have hb9:Below w8.heap.size w8 W9:=by rw[hW9];exact(Below.refl _ w8).alloc (Nat.le_refl _) _
 have k9:W9.heap[w8.heap.size]? = some (.cells #[.slice fa exFrom.length fc,.slice ta exTo.length tc] 40):=by rw[hW9];exact heap_alloc_new _ _
 have hb79:=btt hb8 hb9;have hb59:=btt hb57 hb79;have hb39:=btt hb37 hb79;have hM9:=qH (hM8.keep hb9);have k9h:=qH k9;clear k9 hM8 hb8 hb9;go_upto_region 5 with fail
 rw[←hW9];replace hW9:=qH hW9;refine regAw5 (keptO hb59 k5h.out) (hC5.out.keep hb59) (keptO hb79 k7h.out) (hC7.out.keep hb79) ?_;rintro y11 y12 y13 y14 y15 y22 y23 y24 W10 hb10 - - - - - - - -;have hb310:=btt hb39 hb10;have hM10:=qH (hM9.out.keep hb10);have k10:=qH (keptO hb10 k9h.out);clear HK hC5 hC7 k5h k7h hM9 k9h hb10 hb39 hb59 hb79 hb57 hb37 hb35;obtain⟨W12,hW12⟩:=exF ((W10.alloc (.cells #[.int .i64 0,.int .i64 2,.int .i64 0,.int .i64 4,.int .i64 0,.int .i64 7,.int .i64 1,.int .i64 3,.int .i64 1,.int .i64 6] 83)).alloc (.cells #[.int .i64 0,.int .i64 0,.int .i64 0,.int .i64 0,.int .i64 0,.int .i64 0,.int .i64 1,.int .i64 0,.int .i64 1,.int .i64 1] 83));have hb12:Below W10.heap.size W10 W12:=by rw[hW12];exact((Below.refl _ W10).alloc (Nat.le_refl _) _).alloc (by simp) _
 have kf:W12.heap[W10.heap.size]? = some (.cells #[.int .i64 0,.int .i64 2,.int .i64 0,.int .i64 4,.int .i64 0,.int .i64 7,.int .i64 1,.int .i64 3,.int .i64 1,.int .i64 6] 83):=by
  rw[hW12];exact(Below.heap_alloc _ _ _ (by simp)).trans (heap_alloc_new W10 _)
 have kt:W12.heap[W10.heap.size+1]? = some (.cells #[.int .i64 0,.int .i64 0,.int .i64 0,.int .i64 0,.int .i64 0,.int .i64 0,.int .i64 1,.int .i64 0,.int .i64 1,.int .i64 1] 83):=by
  rw[hW12];have:=heap_alloc_new (W10.alloc (.cells #[.int .i64 0,.int .i64 2,.int .i64 0,.int .i64 4,.int .i64 0,.int .i64 7,.int .i64 1,.int .i64 3,.int .i64 1,.int .i64 6] 83)) (.cells #[.int .i64 0,.int .i64 0,.int .i64 0,.int .i64 0,.int .i64 0,.int .i64 0,.int .i64 1,.int .i64 0,.int .i64 1,.int .i64 1] 83)
  rwa [World.size_alloc] at this
 have hF:=qH (ksLit5 kf);have hT:=qH (ksLit5 kt).1;have hb312:=btt hb310 hb12;have hM12:=qH (hM10.out.keep hb12);have k12:=qH (keptO hb12 k10.out);have kS12:=qH (keptO hb312 k3h.out);clear kf kt hM10 k10 hb310;go_upto_region 9 with fail
 rw[←hW12];replace hW12:=qH hW12;refine regAw9 kS12.out (fun W hb=>exSysK (HS.out W (btt hb312 hb)) (hF.out.2.keep hb) exChk1 exCs1) ?_;rintro y3 y4 y5 y7 W13 hb13 - - - hi7;obtain⟨ia,ic,hie⟩:∃a c,y7 = .slice a 2 c:=by obtain⟨a,c,_,_,h,_⟩:=hi7;exact⟨a,c,h⟩
 subst hie;have hb313:=btt hb312 hb13;have kS13:=qH (keptO hb13 kS12.out);have hM13:=qH (hM12.out.keep hb13);have k13:=qH (keptO hb13 k12.out);have hF13:=qH (hF.out.1.keep hb13);have hT13:=qH (hT.out.keep hb13);have hi7:=qH hi7;clear hM12 k12 hF hT kS12 hb13;go_upto_region 10 with fail
 refine regAw10 kS13.out (fun W hb b hk=>exSysK (HS.out W (btt hb313 hb)) hk exChk2 exCs2) ?_;rintro y1 y2 y3' y4' y6 W14 hb14 - - - - hi6;obtain⟨ja,jc,hje⟩:∃a c,y6 = .slice a 1 c:=by obtain⟨a,c,_,_,h,_⟩:=hi6;exact⟨a,c,h⟩
 subst hje;have hb314:=btt hb313 hb14;have hM14:=qH (hM13.out.keep hb14);have k14:=boxL2 (keptO hb14 k13.out);have hF14:=qH (hF13.out.keep hb14);have hT14:=qH (hT13.out.keep hb14);have hi7':=qH (hi7.out.keep hb14);have hi6:=qH hi6;obtain⟨m0,m1⟩:=k14;have HM:=(refSameMap hM14.out (show MapV W14 (.agg #[.slice (some ⟨W10.heap.size,0,none⟩) 5 5,.slice (some ⟨W10.heap.size+1,0,none⟩) 5 5]) exFrom exTo from ⟨_,_,_,_,rfl,hF14.out,hT14.out⟩));rw[show(decide (exFrom=exFrom) && decide (exTo=exTo))=true by simp] at HM;replace HM:=qH HM;clear hM13 k13 hF13 hT13 hi7 hb14 hb313 hb312 kS13;go_wp2_with fail
 refine HM.out.mono ?_;rintro e w15 ⟨rfl,hb15⟩;have hb315:=btt hb314 hb15;obtain⟨W16,hW16⟩:=exF (w15.alloc (.cells #[.int .i64 0,.int .i64 1] 3));have hb16:Below w15.heap.size w15 W16:=by rw[hW16];exact(Below.refl _ w15).alloc (Nat.le_refl _) _
 have k16:W16.heap[w15.heap.size]? = some (.cells #[.int .i64 0,.int .i64 1] 3):=by rw[hW16];exact heap_alloc_new _ _
 have HE1:=eqInts (hi7'.out.keep (btt hb15 hb16)) (intsLit2 k16);rw[decide_eq_true (rfl:([0,1]:List Int) = [0,1])] at HE1;have HE1:=qH HE1;clear k16 m0 m1 HM;go_wp2_with fail
 rw[←hW16];replace hW16:=qH hW16;refine HE1.out.mono ?_;rintro e w17 ⟨rfl,hq17⟩;have hb17:=hq17.below;have hb317:=btt hb315 (btt hb16 hb17);obtain⟨W18,hW18⟩:=exF (w17.alloc (.cells #[.int .i64 0] 3));have hb18:Below w17.heap.size w17 W18:=by rw[hW18];exact(Below.refl _ w17).alloc (Nat.le_refl _) _
 have k18:W18.heap[w17.heap.size]? = some (.cells #[.int .i64 0] 3):=by rw[hW18];exact heap_alloc_new _ _
 have hI1:Ints W18 (.slice (some ⟨w17.heap.size,0,none⟩) 1 1) [0]:=⟨_,_,w17.heap.size,0,rfl,fun _=>rfl,fun j hj=>by
  match j,hj with
  | 0,_=>exact cell_of_one k18,by simp⟩
 have HE2:=eqInts (hi6.out.keep (btt (btt hb15 hb16) (btt hb17 hb18))) hI1;rw[decide_eq_true (rfl:([0]:List Int) = [0])] at HE2;have HE2:=qH HE2;have hb318:=btt hb317 hb18;clear k18 hI1 HE1 hb15 hb16 hb17 hb18 hq17;go_wp2_with fail
 rw[←hW18];replace hW18:=qH hW18;refine HE2.out.mono ?_;rintro e w19 ⟨rfl,hq19⟩;have hbf:=btt hb03.out (btt hb318 hq19.below);go_wp2;go_ret;exact⟨rfl,hbf⟩
def Yes (w:World) (e:Ending) (w':World):Prop:=e = .returned (.bool true)∧Below w.heap.size w w'
def AnsG (fs:List (List (List Int))):Prop:=fs.length≤1000∧∀s∈fs,VS s∧s.length≤8
theorem ansG_nil:AnsG []:=⟨by decide,fun s hs=>by cases hs⟩
theorem ansG_max {l:List (List Int)}(hl:l.length≤1000) (hv:∀x∈l,VeC x):AnsG (maxX (l.map vecX)):=by
 refine⟨?_,fun s hs=>?_⟩
 ·have:=maxX_le (l:=l.map vecX)
  rw[List.length_map] at this;omega
 ·obtain⟨x,hx,rfl⟩:=List.mem_map.1 (maxX_mem.1 hs).1;refine⟨vecX_vs x,?_⟩;rw[vecX_len];have:=(hv x hx).2.1;omega
theorem inpG {n i o:Int}{cs:List Cs}(hf:fewT cs=true):AnsG (inpA n i o cs).2:=by
 unfold inpA;split
 ·exact ansG_nil
 ·next h=>
  obtain⟨hl,hg⟩:=task_ve (Decidable.not_not.1 h);have:=(few_lens hf).1
  refine ansG_max (by rw[List.length_map];omega) fun x hx=>?_;obtain⟨c,hc,rfl⟩:=List.mem_map.1 hx;exact(hg c hc).1
theorem outG {n i o:Int}{cs:List Cs}(hf:fewT cs=true):AnsG (outA n i o cs).2:=by
 unfold outA;split
 ·exact ansG_nil
 ·next h=>
  obtain⟨hl,hg⟩:=task_ve (Decidable.not_not.1 h);obtain⟨h1,h2⟩:=few_lens hf;have h3:=flat_take h2 h1 cs.length;rw[List.take_length] at h3;refine ansG_max (by omega) fun x hx=>?_;obtain⟨c,hc,hx2⟩:=List.mem_flatMap.1 hx;exact(hg c hc).2.2 x hx2
theorem imgG {n i o x:Int}{cs:List Cs}(hf:fewT cs=true):AnsG (imgA n i o cs x).2:=by
 unfold imgA;split
 ·exact ansG_nil
 ·next h=>
  split
  ·exact ansG_nil
  ·next h2=>
   obtain⟨hl,hg⟩:=task_ve (Decidable.not_not.1 h);obtain⟨h3,h4⟩:=few_lens hf;have hlt:x.toNat < cs.length:=(by omega);have hm:cs.getD x.toNat csNil∈cs:=(by rw[getD_eq hlt];exact List.getElem_mem hlt);have:=h4 _ hm
   exact ansG_max (by omega) (hg _ hm).2.2
theorem CxO.kssG {w:World}{v:Value}{fs:List (List (List Int))}(h:CxO w v fs) (hg:AnsG fs):∃a c,v = .agg #[.slice a fs.length c]∧KSS 2 w (.slice a fs.length c) fs:=by
 obtain⟨a,c,rfl,hO⟩:=h;exact⟨a,c,rfl,(hO.kssc (by have:=hg.1;omega) (fun x hx=>by have:=(hg.2 x hx).2;omega)).kss⟩
theorem sameCxT {w:World}{u v:Value}{fs:List (List (List Int))}(hx:KSS 2 w u fs) (hy:KSS 2 w v fs) (hg:AnsG fs) :
  Calls Tryz.prog 25 #[.agg #[u],.agg #[v]] w fun e w'=>e = .returned (.bool true)∧Below w.heap.size w w':=by
 have h:=refSameCx hx hy (fun s hs=>(hg.2 s hs).1) (fun s hs=>(hg.2 s hs).1);rwa [decide_eq_true (rfl:fs=fs)] at h
theorem boxC1 {w V:World}{u:Value}{fs:List (List (List Int))}(hV:V=w.alloc (.cells #[u] 57)) (hK:KSS 2 w u fs) :
  Below w.heap.size w V∧Hid (∀W,Below V.heap.size V W→W.cell? ⟨w.heap.size,0,none⟩=some u∧KSS 2 W u fs):=by
 have hb:Below w.heap.size w V:=by rw[hV];exact(Below.refl _ w).alloc (Nat.le_refl _) _
 have kV:V.heap[w.heap.size]? = some (.cells #[u] 57):=by rw[hV];exact heap_alloc_new _ _
 exact⟨hb,fun W h=>⟨cell_kept h (cell_of_one kV),hK.keep (btt hb h)⟩⟩
theorem lawTasks {w:World}{v:Value}{n i o x:Int}{cs:List Cs}(h:TaskC w v n i o cs) :
  Calls Tryz.prog 7 #[v,.int .i64 x] w (Yes w):=by
 have hT:=qH (fun W (hb:Below w.heap.size w W)=>h.keep hb);obtain⟨sa,sc,rfl,hS,hcp,hcm⟩:=h;obtain⟨W1,hW1⟩:=exF (w.alloc (.cells #[.int .i64 n,.int .i64 i,.int .i64 o,.slice sa cs.length sc] 24));have hb1:Below w.heap.size w W1:=by rw[hW1];exact(Below.refl _ w).alloc (Nat.le_refl _) _
 have kT:W1.heap[w.heap.size]? = some (.cells #[.int .i64 n,.int .i64 i,.int .i64 o,.slice sa cs.length sc] 24):=by rw[hW1];exact heap_alloc_new _ _
 have HF:=qH (refFewT (hT.out W1 hb1).t);have HK:=qH (fun W (hb:Below W1.heap.size W1 W)=>keep4 hb (box4' kT));obtain⟨g0,g1,g2,g3⟩:=HK.out W1 (Below.refl _ _);rw[hW1] at g0 g1 g2 g3;clear kT hS hcp hcm;cases hf:fewT cs
 ·rw[hf] at HF;clear hf;go_enter Tryz.func7, Tryz.ntmps7
  go_wp2_with fail
  rw[←hW1];replace hW1:=qH hW1;refine HF.out.mono ?_;rintro e w2 ⟨rfl,hb2⟩;clear g0 g1 g2 g3;go_wp2_with fail
  refine(awakeC w2).mono ?_;rintro e w3 ⟨rfl,hb3⟩;have hfin:=btt (btt hb1 hb2) hb3;go_wp2;go_ret;exact⟨rfl,hfin⟩
 ·rw[hf] at HF;have hgI:=qH (inpG (n:=n) (i:=i) (o:=o) hf);have hgO:=qH (outG (n:=n) (i:=i) (o:=o) hf);have hgM:=qH (imgG (n:=n) (i:=i) (o:=o) (x:=x) hf);have C1:=fun W (hb:Below w.heap.size w W)=>protInputs (hT.out W hb).t hf;have C2:=fun W (hb:Below w.heap.size w W)=>refInputs (hT.out W hb).t hf;have C3:=fun W (hb:Below w.heap.size w W)=>protOutputs (hT.out W hb).t hf;have C4:=fun W (hb:Below w.heap.size w W)=>refOutputs (hT.out W hb).t hf;have C5:=fun W (hb:Below w.heap.size w W)=>protImage (x:=x) (hT.out W hb).t hf;have C6:=fun W (hb:Below w.heap.size w W)=>refImage (x:=x) (hT.out W hb) hf;obtain⟨zI,hzI⟩:=exE ((inpA n i o cs).1);obtain⟨FI,hFI⟩:=exE ((inpA n i o cs).2);obtain⟨zO,hzO⟩:=exE ((outA n i o cs).1);obtain⟨FO,hFO⟩:=exE ((outA n i o cs).2);obtain⟨zM,hzM⟩:=exE ((imgA n i o cs x).1);obtain⟨FM,hFM⟩:=exE ((imgA n i o cs x).2);simp only[hzI,hFI] at C1 C2 hgI;simp only[hzO,hFO] at C3 C4 hgO;simp only[hzM,hFM] at C5 C6 hgM;replace C1:=qH C1;replace C2:=qH C2;replace C3:=qH C3;replace C4:=qH C4;replace C5:=qH C5;replace C6:=qH C6;clear hzI hFI hzO hFO hzM hFM hf;go_enter Tryz.func7, Tryz.ntmps7
  go_wp2_with fail
  rw[←hW1];replace hW1:=qH hW1;refine HF.out.mono ?_;rintro e w2 ⟨rfl,hbc⟩;clear g0 g1 g2 g3 HF;obtain⟨g0,g1,g2,g3⟩:=HK.out w2 hbc;replace hbc:=qH hbc;have hC:=C1.out w2 (btt hb1 hbc.out);replace hC:=qH hC;go_wp2_with fail
  refine hC.out.mono ?_;rintro e u1 ⟨v1,rfl,hO,hb⟩;obtain⟨a1,c1,rfl,hKj⟩:=hO.kssG hgI.out;obtain⟨V1,hV1⟩:=exF (u1.alloc (.cells #[.slice a1 FI.length c1] 57));obtain⟨hbv,H1⟩:=boxC1 hV1 hKj;have hbs:=btt hb hbv;replace hbc:=qH (btt hbc.out hbs);clear g0 g1 g2 g3 hC hO hKj hb hbv hbs;obtain⟨g0,g1,g2,g3⟩:=HK.out V1 hbc.out;have hC:=qH (C2.out V1 (btt hb1 hbc.out));go_upto_region 4 with fail
  rw[←hV1];replace hV1:=qH hV1;go_wp2_with fail
  refine hC.out.mono ?_;rintro e u2 ⟨v2,rfl,hO,hb⟩;obtain⟨a2,c2,rfl⟩:=hO.shape;have hKj:=hO.kss;obtain⟨V2,hV2⟩:=exF (u2.alloc (.cells #[.slice a2 FI.length c2] 57));obtain⟨hbv,H2⟩:=boxC1 hV2 hKj;have hbs:=btt hb hbv;replace H1:=qH (fun W hw=>H1.out W (btt hbs hw));replace hbc:=qH (btt hbc.out hbs);clear g0 g1 g2 g3 hC hO hKj hb hbv hbs;obtain⟨g0,g1,g2,g3⟩:=HK.out V2 hbc.out;have hC:=qH (C3.out V2 (btt hb1 hbc.out));go_upto_region 5 with fail
  rw[←hV2];replace hV2:=qH hV2;go_wp2_with fail
  refine hC.out.mono ?_;rintro e u3 ⟨v3,rfl,hO,hb⟩;obtain⟨a3,c3,rfl,hKj⟩:=hO.kssG hgO.out;obtain⟨V3,hV3⟩:=exF (u3.alloc (.cells #[.slice a3 FO.length c3] 57));obtain⟨hbv,H3⟩:=boxC1 hV3 hKj;have hbs:=btt hb hbv;replace H1:=qH (fun W hw=>H1.out W (btt hbs hw));replace H2:=qH (fun W hw=>H2.out W (btt hbs hw));replace hbc:=qH (btt hbc.out hbs);clear g0 g1 g2 g3 hC hO hKj hb hbv hbs;obtain⟨g0,g1,g2,g3⟩:=HK.out V3 hbc.out;have hC:=qH (C4.out V3 (btt hb1 hbc.out));go_upto_region 6 with fail
  rw[←hV3];replace hV3:=qH hV3;go_wp2_with fail
  refine hC.out.mono ?_;rintro e u4 ⟨v4,rfl,hO,hb⟩;obtain⟨a4,c4,rfl⟩:=hO.shape;have hKj:=hO.kss;obtain⟨V4,hV4⟩:=exF (u4.alloc (.cells #[.slice a4 FO.length c4] 57));obtain⟨hbv,H4⟩:=boxC1 hV4 hKj;have hbs:=btt hb hbv;replace H1:=qH (fun W hw=>H1.out W (btt hbs hw));replace H2:=qH (fun W hw=>H2.out W (btt hbs hw));replace H3:=qH (fun W hw=>H3.out W (btt hbs hw));replace hbc:=qH (btt hbc.out hbs);clear g0 g1 g2 g3 hC hO hKj hb hbv hbs;obtain⟨g0,g1,g2,g3⟩:=HK.out V4 hbc.out;have hC:=qH (C5.out V4 (btt hb1 hbc.out));go_upto_region 7 with fail
  rw[←hV4];replace hV4:=qH hV4;go_wp2_with fail
  refine hC.out.mono ?_;rintro e u5 ⟨v5,rfl,hO,hb⟩;obtain⟨a5,c5,rfl,hKj⟩:=hO.kssG hgM.out;obtain⟨V5,hV5⟩:=exF (u5.alloc (.cells #[.slice a5 FM.length c5] 57));obtain⟨hbv,H5⟩:=boxC1 hV5 hKj;have hbs:=btt hb hbv;replace H1:=qH (fun W hw=>H1.out W (btt hbs hw));replace H2:=qH (fun W hw=>H2.out W (btt hbs hw));replace H3:=qH (fun W hw=>H3.out W (btt hbs hw));replace H4:=qH (fun W hw=>H4.out W (btt hbs hw));replace hbc:=qH (btt hbc.out hbs);clear g0 g1 g2 g3 hC hO hKj hb hbv hbs;obtain⟨g0,g1,g2,g3⟩:=HK.out V5 hbc.out;have hC:=qH (C6.out V5 (btt hb1 hbc.out));go_upto_region 8 with fail
  rw[←hV5];replace hV5:=qH hV5;go_wp2_with fail
  refine hC.out.mono ?_;rintro e u6 ⟨v6,rfl,hO,hb⟩;obtain⟨a6,c6,rfl⟩:=hO.shape;have hKj:=hO.kss;obtain⟨V6,hV6⟩:=exF (u6.alloc (.cells #[.slice a6 FM.length c6] 57));obtain⟨hbv,H6⟩:=boxC1 hV6 hKj;have hbs:=btt hb hbv;replace H1:=qH (fun W hw=>H1.out W (btt hbs hw));replace H2:=qH (fun W hw=>H2.out W (btt hbs hw));replace H3:=qH (fun W hw=>H3.out W (btt hbs hw));replace H4:=qH (fun W hw=>H4.out W (btt hbs hw));replace H5:=qH (fun W hw=>H5.out W (btt hbs hw));replace hbc:=qH (btt hbc.out hbs);clear g0 g1 g2 g3 hC hO hKj hb hbv hbs;obtain⟨g0,g1,g2,g3⟩:=HK.out V6 hbc.out;obtain⟨m1,k1⟩:=H1.out V6 (Below.refl _ _);obtain⟨m2,k2⟩:=H2.out V6 (Below.refl _ _);have hC:=qH (sameCxT k1 k2 hgI.out);clear k1 k2 g0 g1 g2 g3;go_upto_region 9 with fail
  rw[←hV6];replace hV6:=qH hV6;go_wp2_with fail
  refine hC.out.mono ?_;rintro e x1 ⟨rfl,hb⟩;replace hbc:=qH (btt hbc.out hb);clear hC m1 m2;replace H3:=qH (fun W hw=>H3.out W (btt hb hw));replace H4:=qH (fun W hw=>H4.out W (btt hb hw));replace H5:=qH (fun W hw=>H5.out W (btt hb hw));replace H6:=qH (fun W hw=>H6.out W (btt hb hw));obtain⟨m1,k1⟩:=H3.out x1 (Below.refl _ _);obtain⟨m2,k2⟩:=H4.out x1 (Below.refl _ _);have hC:=qH (sameCxT k1 k2 hgO.out);clear k1 k2 hb;go_wp2_with fail
  refine hC.out.mono ?_;rintro e x3 ⟨rfl,hb⟩;replace hbc:=qH (btt hbc.out hb);clear hC m1 m2;replace H3:=qH (fun W hw=>H3.out W (btt hb hw));replace H4:=qH (fun W hw=>H4.out W (btt hb hw));replace H5:=qH (fun W hw=>H5.out W (btt hb hw));replace H6:=qH (fun W hw=>H6.out W (btt hb hw));obtain⟨m1,k1⟩:=H5.out x3 (Below.refl _ _);obtain⟨m2,k2⟩:=H6.out x3 (Below.refl _ _);have hC:=qH (sameCxT k1 k2 hgM.out);clear k1 k2 hb;go_wp2_with fail
  refine hC.out.mono ?_;rintro e x5 ⟨rfl,hb⟩;replace hbc:=qH (btt hbc.out hb);clear hC m1 m2;clear hb;go_wp2_with fail
  refine(awakeC x5).mono ?_;rintro e w3 ⟨rfl,hb3⟩;have hfin:=btt (btt hb1 hbc.out) hb3;go_wp2;go_ret;exact⟨rfl,hfin⟩
end Go.Proofs.YtcnedkkcgdkioaaGreat
namespace Go.Proofs.YtcnedkkcgdkioaaGreat
open Go.RowKit Go.ChangeShapes Go.WideShapes Go.ChangeAt Go.Deep Go.WideElems
section
variable {H:Type} {enc:TypeId × Value→H} {w:World} {base:Nat} {spare:Nat→Bool} {held:Bool}
theorem weightsAll_mem {e:TypeId}:∀ {l:List (DataW H)}{x:DataW H},x∈l→∀n∈x.weights Tryz.prog e,n∈DataW.weightsAll Tryz.prog e l:=by
 intro l;induction l with
 | nil=>intro x hx;cases hx
 | cons y r ih=>
  intro x hx n hn;simp only[DataW.weightsAll,List.mem_append];rcases List.mem_cons.1 hx with rfl|hx
  ·exact .inl hn
  ·exact .inr (ih hx n hn)
end
end Go.Proofs.YtcnedkkcgdkioaaGreat
namespace Go.Proofs.YtcnedkkcgdkioaaGreat
open Go.RowKit Go.ChangeShapes Go.WideShapes Go.ChangeAt Go.Deep Go.WideElems
section
variable {H:Type} {enc:TypeId × Value→H} {w:World}
theorem caseRows {cs:List Value}{x:DataW H × List MemPlace}{fuel:Nat}(h:DataW.trod enc Tryz.prog w 0 (fun _=>true) true fuel 95 cs=some x) (hw:∀n∈x.1.weights Tryz.prog 95,n≤reachBytes) :
  ∃(u0 u1 u2:Value) (c:Cs),cs = [u0,u1,u2]∧Ints w u0 c.1∧Intss w u1 c.2.1∧Intss w u2 c.2.2:=by
 have k128 : Tryz.prog.cellsOf 95=3:=by kernel_rfl
 have k25 : Tryz.prog.cellsOf 48=1:=by kernel_rfl
 have k39 : Tryz.prog.cellsOf 78=1:=by kernel_rfl
 have k3 : Tryz.prog.cellsOf 3=1:=by kernel_rfl
 have b3 : Tryz.prog.bytesOf 3=8:=by kernel_rfl
 have b25 : Tryz.prog.bytesOf 48=24:=by kernel_rfl
 obtain⟨y0,y1,y2,n,hx,hl,h0,h1,h2⟩:=trod_struct3 Tryz.underlying95 h;rw[k128] at hl
 obtain⟨u0,u1,u2,rfl⟩:∃a b c,cs = [a,b,c]:=by
  match cs,hl with
  | [a,b,c],_=>exact⟨a,b,c,rfl⟩
 simp only[k25,k39,List.drop_zero,List.take_succ_cons,List.take_zero,List.drop_succ_cons] at h0 h1 h2;subst hx
 have hwx:∀n,(n∈y0.1.weights Tryz.prog 48∨n∈y1.1.weights Tryz.prog 78∨n∈y2.1.weights Tryz.prog 78)→n≤reachBytes:=fun n hn=>hw n (by
  simp only[DataW.weights,Tryz.underlying95,DataW.weightsEach,List.map_cons,List.map_nil,List.mem_append];rcases hn with hn|hn|hn
  ·exact .inl hn
  ·exact .inr (.inl hn)
  ·exact .inr (.inr (.inl hn)))
 obtain⟨x0,i0⟩:=ints_of_trod Tryz.underlying48 Tryz.underlying3 k3 b3 h0 (fun n hn=>hwx n (.inl hn));obtain⟨x1,i1⟩:=intss_of_trod Tryz.underlying78 Tryz.underlying48 Tryz.underlying3 k25 b25 k3 b3 h1 (fun n hn=>hwx n (.inr (.inl hn)));obtain⟨x2,i2⟩:=intss_of_trod Tryz.underlying78 Tryz.underlying48 Tryz.underlying3 k25 b25 k3 b3 h2 (fun n hn=>hwx n (.inr (.inr hn)));exact⟨u0,u1,u2,(x0,x1,x2),rfl,i0,i1,i2⟩
theorem choose_lt28 {α:Type} [Inhabited α] {n:Nat}{p:Nat→α→Prop}(h:∀i,i < n→∃x,p i x):∃X:Nat→α,∀i,i < n→p i (X i):=
 ⟨fun i=>if h':i < n then (h i h').choose else default,fun i hi=>by simp only[hi,dif_pos];exact(h i hi).choose_spec⟩
theorem cases_of_trod {v:Value}{d:DataW H}{ps:List MemPlace}{fuel:Nat}(h:DataW.trod enc Tryz.prog w 0 (fun _=>true) true fuel 22 [v]=some (d,ps)) (hw:∀n∈d.weights Tryz.prog 22,n≤reachBytes):∃cs a c,v = .slice a cs.length c∧CsS w v cs∧cs.length≤c∧c≤1954687338268:=by
 have k128 : Tryz.prog.cellsOf 95=3:=by kernel_rfl
 have b128 : Tryz.prog.bytesOf 95=72:=by kernel_rfl
 rcases open_slice Tryz.underlying22 h with⟨h1,_⟩|⟨a,len,cap,m,n,D,Pl,h1,_,hl,hm,hmm,h2,hx⟩
 ·obtain rfl:v = .slice none 0 0:=by simpa using h1
  exact⟨[],none,0,rfl,⟨none,0,0,0,rfl,by simp,by intro j hj;simp at hj,by simp⟩,Nat.le_refl _,by decide⟩
 ·obtain rfl:v = .slice (some a) len cap:=by simpa using h1
  simp only[if_true] at hmm;subst hmm;obtain⟨rfl,_⟩:=Prod.mk.injEq ..▸h2;have hsz:=hw ((len+(m - len)) * 72) (by simp[DataW.weights,Tryz.underlying22,b128]);unfold reachBytes at hsz;rw[k128] at hx
  obtain⟨X,hX⟩:=choose_lt28 (α:=Cs) (n:=len) (p:=fun i c=>∃u0 u1 u2,w.cell? (a.add (i * 3))=some u0∧w.cell? (a.add (i * 3+1))=some u1∧w.cell? (a.add (i * 3+2))=some u2∧Ints w u0 c.1∧Intss w u1 c.2.1∧Intss w u2 c.2.2) (fun i hi=>by
   obtain⟨cs',g1,g2⟩:=hx i (by omega)
   obtain⟨u0,u1,u2,c,rfl,j0,j1,j2⟩:=caseRows g2 (fun n hn=>hw n (by
    simp only[DataW.weights,Tryz.underlying22,List.mem_cons,List.mem_append];right;left
    exact weightsAll_mem (List.mem_map_of_mem (List.mem_range.2 hi)) n hn))
   obtain⟨_,_,hcell⟩:=World.cells?_some g1;have h0:=hcell 0 (by simp);have h1:=hcell 1 (by simp);have h2:=hcell 2 (by simp);rw[add_add] at h0 h1 h2;exact⟨c,u0,u1,u2,h0,h1,h2,j0,j1,j2⟩)
  have hlen:len≤1954687338268:=by omega
  have hall:∀j,j < len→((List.range len).map X).getD j csNil=X j:=fun j hj=>by simp[hj]
  refine⟨(List.range len).map X,some a,m,by simp,⟨some a,m,a.block,a.off,by simp,fun h0=>?_,fun j hj=>?_,by simpa using hlen⟩,by simpa using hl,by omega⟩
  ·obtain⟨u0,_,_,hk,_⟩:=hX 0 (by simpa using h0);rw[show a.add (0 * 3)=a by simp[Addr.add]] at hk;rw[←addr_spot hk]
  ·have hj':j < len:=(by simpa using hj);rw[hall j hj'];obtain⟨_,_,_,hk0,_⟩:=hX 0 (by omega);rw[show a.add (0 * 3)=a by simp[Addr.add]] at hk0;have hsp:=addr_spot hk0;obtain⟨u0,u1,u2,g0,g1,g2,j0,j1,j2⟩:=hX j hj'
   have e:∀i,a.add (j * 3+i)=⟨a.block,a.off+j * 3+i,none⟩:=fun i=>by
    rw[hsp,Nat.add_assoc];exact add_plain _ _ _
   have e0:=e 0;rw[Nat.add_zero,Nat.add_zero] at e0;exact⟨u0,u1,u2,by rw[←e0];exact g0,by rw[←e 1];exact g1,by rw[←e 2];exact g2,j0,j1,j2⟩
theorem task_of_trod {r:Reach}{b0:Nat}{v:Value}{d:DataW H}{p:List MemPlace}(hv:Value.okWide Tryz.prog w r b0 24 v) (h:DataW.Trod enc Tryz.prog w 0 (fun _=>true) true 24 v d p) (hw:∀n∈d.weights Tryz.prog 24,n≤reachBytes) :
  ∃(x:Int × Int × Int × List Cs),TaskC w v x.1 x.2.1 x.2.2.1 x.2.2.2:=by
 have k64 : Tryz.prog.cellsOf 24=4:=by kernel_rfl
 have k3 : Tryz.prog.cellsOf 3=1:=by kernel_rfl
 have k62 : Tryz.prog.cellsOf 22=1:=by kernel_rfl
 obtain⟨cs,rfl,hsz⟩:=okWide_struct Tryz.underlying24 hv;rw[k64] at hsz
 obtain⟨c0,c1,c2,c3,rfl⟩:∃c0 c1 c2 c3,cs = #[c0,c1,c2,c3]:=by
  obtain⟨l⟩:=cs;match l,hsz with
  | [a,b,c,d],_=>exact⟨a,b,c,d,rfl⟩
 obtain⟨fuel,hf⟩:=h;obtain⟨z0,z1,z2,z3,n2,hz,_,g0,g1,g2,g3⟩:=Go.Joins.trod_struct4 Tryz.underlying24 hf;simp only[Value.cells,k62,k3,List.drop_zero,List.take_succ_cons,List.take_zero,List.drop_succ_cons] at g0 g1 g2 g3;simp only[Prod.mk.injEq] at hz;obtain⟨rfl,rfl⟩:=hz;obtain⟨i0,e0,_⟩:=DataW.trod_int Tryz.underlying3 g0;obtain⟨i1,e1,_⟩:=DataW.trod_int Tryz.underlying3 g1;obtain⟨i2,e2,_⟩:=DataW.trod_int Tryz.underlying3 g2;obtain rfl:c0 = .int .i64 i0:=by simpa using e0
 obtain rfl:c1 = .int .i64 i1:=by simpa using e1
 obtain rfl:c2 = .int .i64 i2:=by simpa using e2
 obtain⟨d3,p3⟩:=z3
 obtain⟨cl,sa,sc,rfl,hC,hcp,hcm⟩:=cases_of_trod g3 (fun n hn=>hw n (by
  simp only[DataW.weights,Tryz.underlying24,DataW.weightsEach,List.map_cons,List.map_nil,List.mem_append];exact .inr (.inr (.inr (.inl hn)))))
 exact⟨(i0,i1,i2,cl),sa,sc,rfl,hC,hcp,hcm⟩
end
end Go.Proofs.YtcnedkkcgdkioaaGreat
