/- Texts of this claim, put together: PW QN1 LSc. -/
import Derived.Test.YtcnedkkcgdkioaaGreatKSzi

set_option maxRecDepth 100000
set_option maxHeartbeats 12800000
namespace Go.Proofs.YtcnedkkcgdkioaaGreat
open Go.RowKit
theorem exSys {w:World}{v:Value}(h:SysV w v 2 2 1 exCs 2 exSS 1 2 exVs exXs):Calls Tryz.prog 19 #[v] w fun e w'=>∃a c,e = .returned (.tuple #[.agg #[.slice a 4 c],.int .i64 0])/\KSS 2 w' (.slice a 4 c) exC1/\Below w.heap.size w w':=by
 refine(protComplex h exFew).mono ?_;rintro e w' ⟨v',rfl,hc,hb⟩
 have he:(if verE 2 2 1 exCs 2 exSS 1 2 exVs exXs=0 then maxX (simsX (2:Int).toNat (1:Int).toNat exXs (-1)) else [])=exC1:=by
  rw[if_pos exVer];exact exCx1
 rw[he] at hc;obtain⟨a,c,rfl,hO⟩:=hc;exact⟨a,c,by rw[exVer];rfl,(hO.kssc (by decide) (by decide)).kss,hb⟩
theorem exSysC {w:World}{v:Value}(h:SysV w v 2 2 1 exCs 2 exSS 1 2 exVs exXs):Calls Tryz.prog 21 #[v,.int .i64 0] w fun e w'=>∃a c,e = .returned (.tuple #[.agg #[.slice a 2 c],.int .i64 0])/\KSS 2 w' (.slice a 2 c) exC2/\Below w.heap.size w w':=by
 refine(protCase h exFew).mono ?_;rintro e w' ⟨v',rfl,hc,hb⟩;have hE:casE (verE 2 2 1 exCs 2 exSS 1 2 exVs exXs) 0 exCs.length=0:=by rw[exVer];rfl
 have he:(if casE (verE 2 2 1 exCs 2 exSS 1 2 exVs exXs) 0 exCs.length=0 then maxX (simsX (2:Int).toNat (1:Int).toNat exXs 0) else [])=exC2:=by
  rw[if_pos hE];exact exCx2
 rw[he] at hc;obtain⟨a,c,rfl,hO⟩:=hc;exact⟨a,c,by rw[hE];rfl,(hO.kssc (by decide) (by decide)).kss,hb⟩
theorem exSysP {w:World}{v:Value}(h:SysV w v 2 2 1 exCs 2 exSS 1 2 exVs exXs):Calls Tryz.prog 12 #[v] w fun e w'=>∃v',e = .returned (.tuple #[v',.int .i64 0])/\MapV w' v' exFrom exTo/\Below w.heap.size w w':=by
 refine(protProject h exFew).mono ?_;rintro e w' ⟨v',rfl,hc,hb⟩
 have h1:(if verE 2 2 1 exCs 2 exSS 1 2 exVs exXs=0 then ptsX (maxX (simsX (2:Int).toNat (1:Int).toNat exXs (-1))) else [])=exFrom:=by
  rw[if_pos exVer];exact(congrArg ptsX exCx1).trans exPts
 have h2:(if verE 2 2 1 exCs 2 exSS 1 2 exVs exXs=0 then prjX exVs (ptsX (maxX (simsX (2:Int).toNat (1:Int).toNat exXs (-1)))) else [])=exTo:=by
  rw[if_pos exVer];exact(congrArg (prjX exVs) ((congrArg ptsX exCx1).trans exPts)).trans exPrj
 rw[h1,h2] at hc;exact⟨v',by rw[exVer],hc,hb⟩
theorem exSysK {w:World}{v u:Value}{l:Jb}{L:List Int}(h:SysV w v 2 2 1 exCs 2 exSS 1 2 exVs exXs) (hl:KS 2 w u l) (h0:chkS l=0) (hL:csL 2 1 exXs l 2=L):Calls Tryz.prog 16 #[v,u] w fun e w'=>∃u',e = .returned (.tuple #[u',.int .i64 0])/\Ints w' u' L/\Below w.heap.size w w':=by
 refine(protCases h hl exFew (by decide)).mono ?_;rintro e w' ⟨v',rfl,hc,hb⟩;have hE:csE (verE 2 2 1 exCs 2 exSS 1 2 exVs exXs) l=0:=by rw[exVer];unfold csE;rw[if_neg (fun h=>h rfl)];exact h0
 have he:(if csE (verE 2 2 1 exCs 2 exSS 1 2 exVs exXs) l=0 then csL (2:Int).toNat (1:Int).toNat exXs l exCs.length else [])=L:=by
  rw[if_pos hE];exact hL
 rw[he] at hc;exact⟨v',by rw[hE],hc,hb⟩
theorem exBuild {w:World}{v:Value}(h:PrV w v 2 2 1 exCs 2 exSS 1):Calls Tryz.prog 28 #[v] w fun e w'=>∃v',e = .returned (.tuple #[v',.int .i64 0])/\SysV w' v' 2 2 1 exCs 2 exSS 1 2 exVs exXs/\Below w.heap.size w w':=by
 refine(buildAll h exFew).mono ?_;rintro e w' ⟨hB,hb⟩;rcases hB with⟨h1,_⟩|⟨_,v',h2,h3⟩
 ·exact absurd exBld h1
 ·exact⟨v',h2,h3,hb⟩
theorem ksLit5 {w:World}{b:Nat}{a0 a1 a2 a3 a4 b0 b1 b2 b3 b4:Int}(h:w.heap[b]? = some (.cells #[.int .i64 a0,.int .i64 b0,.int .i64 a1,.int .i64 b1,.int .i64 a2,.int .i64 b2,.int .i64 a3,.int .i64 b3,.int .i64 a4,.int .i64 b4] 83)) :
  KS 2 w (.slice (some ⟨b,0,none⟩) 5 5) [[a0,b0],[a1,b1],[a2,b2],[a3,b3],[a4,b4]]/\KS 2 w (.slice (some ⟨b,0,none⟩) 1 5) [[a0,b0]]:=by
 have hc:∀j,j < 5->(([[a0,b0],[a1,b1],[a2,b2],[a3,b3],[a4,b4]]:Jb).getD j []).length=2/\CI w b (j * 2) (([[a0,b0],[a1,b1],[a2,b2],[a3,b3],[a4,b4]]:Jb).getD j []):=fun j hj=>by
  match j,hj with
  | 0,_=>exact⟨rfl,fun i hi=>by
    match i,hi with
    | 0,_=>exact box_cell h rfl
    | 1,_=>exact box_cell h rfl⟩
  | 1,_=>exact⟨rfl,fun i hi=>by
    match i,hi with
    | 0,_=>exact box_cell h rfl
    | 1,_=>exact box_cell h rfl⟩
  | 2,_=>exact⟨rfl,fun i hi=>by
    match i,hi with
    | 0,_=>exact box_cell h rfl
    | 1,_=>exact box_cell h rfl⟩
  | 3,_=>exact⟨rfl,fun i hi=>by
    match i,hi with
    | 0,_=>exact box_cell h rfl
    | 1,_=>exact box_cell h rfl⟩
  | 4,_=>exact⟨rfl,fun i hi=>by
    match i,hi with
    | 0,_=>exact box_cell h rfl
    | 1,_=>exact box_cell h rfl⟩
 refine⟨⟨_,_,b,0,rfl,fun _=>rfl,fun j hj=>?_,by simp⟩,⟨_,_,b,0,rfl,fun _=>rfl,fun j hj=>?_,by simp⟩⟩
 ·rw[Nat.zero_add];exact hc j hj
 ·have hj:j < 1:=hj;obtain rfl:j=0:=by omega
  rw[Nat.zero_add];exact hc 0 (by decide)
theorem awakeC (w:World):Calls Tryz.prog 11 #[] w fun e w'=>e = .returned (.bool true)/\Below w.heap.size w w':=by
 have HE:=qH (exampleC w);go_enter Tryz.func11, Tryz.ntmps11
 go_wp2_with fail
 refine HE.out.mono ?_;rintro e w1 ⟨v1,rfl,hP1,hb1⟩;have HB:=qH (exBuild hP1);obtain⟨pa,pc,pa',pc',rfl,-⟩:=hP1;clear HE;go_wp2_with fail
 refine HB.out.mono ?_;rintro e w2 ⟨v2,rfl,hS2,hb2⟩;have hS2':=hS2;obtain⟨a,c,a',c',va,vc,xa,xc,hve,-⟩:=hS2';subst hve;clear HB;obtain⟨VA,hVA⟩:∃VA:Array Value,VA = #[.int .i64 2,.int .i64 2,.int .i64 1,.slice a exCs.length c,.int .i64 2,.slice a' exSS.length c',.int .i64 1,.int .i64 2,.slice va exVs.length vc,.slice xa exXs.length xc]:=⟨_,rfl⟩;obtain⟨W3,hW3⟩:=exF (w2.alloc (.cells VA 35));have hb3:Below w2.heap.size w2 W3:=by rw[hW3];exact(Below.refl _ w2).alloc (Nat.le_refl _) _
 have k3:W3.heap[w2.heap.size]? = some (.cells VA 35):=by rw[hW3];exact heap_alloc_new _ _
 subst hVA;have HK:=qH (fun W (hb:Below W3.heap.size W3 W)=>And.intro (keep7 hb (box10' k3).1) (keep3' hb (box10' k3).2));have HS:=qH (fun W (hb:Below W3.heap.size W3 W)=>(hS2.keep hb3).keep hb);have k3h:=qH k3;obtain⟨⟨p0,p1,p2,p3,p4,p5,p6⟩,p7,p8,p9⟩:=HK.out W3 (Below.refl _ _);have hb03:=qH (btt (btt hb1 hb2) hb3);clear k3 hS2 hb1 hb2 hb3;go_upto_region 2 with fail
 rw[<-hW3];replace hW3:=qH hW3;have H1:=qH (exSys (HS.out W3 (Below.refl _ _)));go_wp2_with fail
 refine H1.out.mono ?_;rintro e w4 ⟨ca,cc,rfl,hC1,hb4⟩;clear p0 p1 p2 p3 p4 p5 p6 p7 p8 p9 H1;obtain⟨W5,hW5⟩:=exF (w4.alloc (.cells #[.slice ca 4 cc] 57));have hb5:Below w4.heap.size w4 W5:=by rw[hW5];exact(Below.refl _ w4).alloc (Nat.le_refl _) _
 have k5:W5.heap[w4.heap.size]? = some (.cells #[.slice ca 4 cc] 57):=by rw[hW5];exact heap_alloc_new _ _
 have hb35:=btt hb4 hb5;have hC5:=qH (hC1.keep hb5);have k5h:=qH k5;obtain⟨⟨p0,p1,p2,p3,p4,p5,p6⟩,p7,p8,p9⟩:=HK.out W5 hb35;clear k5 hC1 hb4 hb5;go_upto_region 3 with fail
 rw[<-hW5];replace hW5:=qH hW5;have H1:=qH (exSysC (HS.out W5 hb35));go_wp2_with fail
 refine H1.out.mono ?_;rintro e w6 ⟨da,dc,rfl,hC2,hb6⟩;clear p0 p1 p2 p3 p4 p5 p6 p7 p8 p9 H1;obtain⟨W7,hW7⟩:=exF (w6.alloc (.cells #[.slice da 2 dc] 57));have hb7:Below w6.heap.size w6 W7:=by rw[hW7];exact(Below.refl _ w6).alloc (Nat.le_refl _) _
 have k7:W7.heap[w6.heap.size]? = some (.cells #[.slice da 2 dc] 57):=by rw[hW7];exact heap_alloc_new _ _
 have hb57:=btt hb6 hb7;have hb37:=btt hb35 hb57;have hC7:=qH (hC2.keep hb7);have k7h:=qH k7;obtain⟨⟨p0,p1,p2,p3,p4,p5,p6⟩,p7,p8,p9⟩:=HK.out W7 hb37;clear k7 hC2 hb6 hb7;go_upto_region 4 with fail
 rw[<-hW7];replace hW7:=qH hW7;have H1:=qH (exSysP (HS.out W7 hb37));go_wp2_with fail
 refine H1.out.mono ?_;rintro e w8 ⟨mv,rfl,hM8,hb8⟩;clear p0 p1 p2 p3 p4 p5 p6 p7 p8 p9 H1;have hM8':=hM8;obtain⟨fa,fc,ta,tc,hme,-⟩:=hM8';subst hme;obtain⟨W9,hW9⟩:=exF (w8.alloc (.cells #[.slice fa exFrom.length fc,.slice ta exTo.length tc] 40));have hb9:Below w8.heap.size w8 W9:=by rw[hW9];exact(Below.refl _ w8).alloc (Nat.le_refl _) _
 have k9:W9.heap[w8.heap.size]? = some (.cells #[.slice fa exFrom.length fc,.slice ta exTo.length tc] 40):=by rw[hW9];exact heap_alloc_new _ _
 have hb79:=btt hb8 hb9;have hb59:=btt hb57 hb79;have hb39:=btt hb37 hb79;have hM9:=qH (hM8.keep hb9);have k9h:=qH k9;clear k9 hM8 hb8 hb9;go_upto_region 5 with fail
 rw[<-hW9];replace hW9:=qH hW9;refine regAw5 (keptO hb59 k5h.out) (hC5.out.keep hb59) (keptO hb79 k7h.out) (hC7.out.keep hb79) ?_;rintro y11 y12 y13 y14 y15 y22 y23 y24 W10 hb10 - - - - - - - -;have hb310:=btt hb39 hb10;have hM10:=qH (hM9.out.keep hb10);have k10:=qH (keptO hb10 k9h.out);clear HK hC5 hC7 k5h k7h hM9 k9h hb10 hb39 hb59 hb79 hb57 hb37 hb35;obtain⟨W12,hW12⟩:=exF ((W10.alloc (.cells #[.int .i64 0,.int .i64 2,.int .i64 0,.int .i64 4,.int .i64 0,.int .i64 7,.int .i64 1,.int .i64 3,.int .i64 1,.int .i64 6] 83)).alloc (.cells #[.int .i64 0,.int .i64 0,.int .i64 0,.int .i64 0,.int .i64 0,.int .i64 0,.int .i64 1,.int .i64 0,.int .i64 1,.int .i64 1] 83));have hb12:Below W10.heap.size W10 W12:=by rw[hW12];exact((Below.refl _ W10).alloc (Nat.le_refl _) _).alloc (by simp) _
 have kf:W12.heap[W10.heap.size]? = some (.cells #[.int .i64 0,.int .i64 2,.int .i64 0,.int .i64 4,.int .i64 0,.int .i64 7,.int .i64 1,.int .i64 3,.int .i64 1,.int .i64 6] 83):=by
  rw[hW12];exact(Below.heap_alloc _ _ _ (by simp)).trans (heap_alloc_new W10 _)
 have kt:W12.heap[W10.heap.size+1]? = some (.cells #[.int .i64 0,.int .i64 0,.int .i64 0,.int .i64 0,.int .i64 0,.int .i64 0,.int .i64 1,.int .i64 0,.int .i64 1,.int .i64 1] 83):=by
  rw[hW12];have:=heap_alloc_new (W10.alloc (.cells #[.int .i64 0,.int .i64 2,.int .i64 0,.int .i64 4,.int .i64 0,.int .i64 7,.int .i64 1,.int .i64 3,.int .i64 1,.int .i64 6] 83)) (.cells #[.int .i64 0,.int .i64 0,.int .i64 0,.int .i64 0,.int .i64 0,.int .i64 0,.int .i64 1,.int .i64 0,.int .i64 1,.int .i64 1] 83)
  rwa [World.size_alloc] at this
 have hF:=qH (ksLit5 kf);have hT:=qH (ksLit5 kt).1;have hb312:=btt hb310 hb12;have hM12:=qH (hM10.out.keep hb12);have k12:=qH (keptO hb12 k10.out);have kS12:=qH (keptO hb312 k3h.out);clear kf kt hM10 k10 hb310;go_upto_region 9 with fail
 rw[<-hW12];replace hW12:=qH hW12;refine regAw9 kS12.out (fun W hb=>exSysK (HS.out W (btt hb312 hb)) (hF.out.2.keep hb) exChk1 exCs1) ?_;rintro y3 y4 y5 y7 W13 hb13 - - - hi7;obtain⟨ia,ic,hie⟩:∃a c,y7 = .slice a 2 c:=by obtain⟨a,c,_,_,h,_⟩:=hi7;exact⟨a,c,h⟩
 subst hie;have hb313:=btt hb312 hb13;have kS13:=qH (keptO hb13 kS12.out);have hM13:=qH (hM12.out.keep hb13);have k13:=qH (keptO hb13 k12.out);have hF13:=qH (hF.out.1.keep hb13);have hT13:=qH (hT.out.keep hb13);have hi7:=qH hi7;clear hM12 k12 hF hT kS12 hb13;go_upto_region 10 with fail
 refine regAw10 kS13.out (fun W hb b hk=>exSysK (HS.out W (btt hb313 hb)) hk exChk2 exCs2) ?_;rintro y1 y2 y3' y4' y6 W14 hb14 - - - - hi6;obtain⟨ja,jc,hje⟩:∃a c,y6 = .slice a 1 c:=by obtain⟨a,c,_,_,h,_⟩:=hi6;exact⟨a,c,h⟩
 subst hje;have hb314:=btt hb313 hb14;have hM14:=qH (hM13.out.keep hb14);have k14:=boxL2 (keptO hb14 k13.out);have hF14:=qH (hF13.out.keep hb14);have hT14:=qH (hT13.out.keep hb14);have hi7':=qH (hi7.out.keep hb14);have hi6:=qH hi6;obtain⟨m0,m1⟩:=k14;have HM:=(refSameMap hM14.out (show MapV W14 (.agg #[.slice (some ⟨W10.heap.size,0,none⟩) 5 5,.slice (some ⟨W10.heap.size+1,0,none⟩) 5 5]) exFrom exTo from ⟨_,_,_,_,rfl,hF14.out,hT14.out⟩));rw[show(decide (exFrom=exFrom) && decide (exTo=exTo))=true by simp] at HM;replace HM:=qH HM;clear hM13 k13 hF13 hT13 hi7 hb14 hb313 hb312 kS13;go_wp2_with fail
 refine HM.out.mono ?_;rintro e w15 ⟨rfl,hb15⟩;have hb315:=btt hb314 hb15;obtain⟨W16,hW16⟩:=exF (w15.alloc (.cells #[.int .i64 0,.int .i64 1] 3));have hb16:Below w15.heap.size w15 W16:=by rw[hW16];exact(Below.refl _ w15).alloc (Nat.le_refl _) _
 have k16:W16.heap[w15.heap.size]? = some (.cells #[.int .i64 0,.int .i64 1] 3):=by rw[hW16];exact heap_alloc_new _ _
 have HE1:=eqInts (hi7'.out.keep (btt hb15 hb16)) (intsLit2 k16);rw[decide_eq_true (rfl:([0,1]:List Int) = [0,1])] at HE1;have HE1:=qH HE1;clear k16 m0 m1 HM;go_wp2_with fail
 rw[<-hW16];replace hW16:=qH hW16;refine HE1.out.mono ?_;rintro e w17 ⟨rfl,hq17⟩;have hb17:=hq17.below;have hb317:=btt hb315 (btt hb16 hb17);obtain⟨W18,hW18⟩:=exF (w17.alloc (.cells #[.int .i64 0] 3));have hb18:Below w17.heap.size w17 W18:=by rw[hW18];exact(Below.refl _ w17).alloc (Nat.le_refl _) _
 have k18:W18.heap[w17.heap.size]? = some (.cells #[.int .i64 0] 3):=by rw[hW18];exact heap_alloc_new _ _
 have hI1:Ints W18 (.slice (some ⟨w17.heap.size,0,none⟩) 1 1) [0]:=⟨_,_,w17.heap.size,0,rfl,fun _=>rfl,fun j hj=>by
  match j,hj with
  | 0,_=>exact cell_of_one k18,by simp⟩
 have HE2:=eqInts (hi6.out.keep (btt (btt hb15 hb16) (btt hb17 hb18))) hI1;rw[decide_eq_true (rfl:([0]:List Int) = [0])] at HE2;have HE2:=qH HE2;have hb318:=btt hb317 hb18;clear k18 hI1 HE1 hb15 hb16 hb17 hb18 hq17;go_wp2_with fail
 rw[<-hW18];replace hW18:=qH hW18;refine HE2.out.mono ?_;rintro e w19 ⟨rfl,hq19⟩;have hbf:=btt hb03.out (btt hb318 hq19.below);go_wp2;go_ret;exact⟨rfl,hbf⟩
def Yes (w:World) (e:Ending) (w':World):Prop:=e = .returned (.bool true)/\Below w.heap.size w w'
def AnsG (fs:Jc):Prop:=fs.length<=1000/\∀s∈fs,VS s/\s.length<=8
theorem sameCxT {w:World}{u v:Value}{fs:Jc}(hx:KSS 2 w u fs) (hy:KSS 2 w v fs) (hg:AnsG fs) :
  Calls Tryz.prog 25 #[.agg #[u],.agg #[v]] w fun e w'=>e = .returned (.bool true)/\Below w.heap.size w w':=by
 have h:=refSameCx hx hy (fun s hs=>(hg.2 s hs).1) (fun s hs=>(hg.2 s hs).1);rwa [decide_eq_true (rfl:fs=fs)] at h
theorem verE_self {n i o:Int}{cs:List Cs}{an:Int}{ss:Jc}{r:Int}(h:bldE n i o cs an ss r=0):verE n i o cs an ss r n (sysP n.toNat cs (wL ss r.toNat 0)).1 (sysP n.toNat cs (wL ss r.toNat 0)).2=0:=by
 unfold verE;rw[if_neg (fun k=>k h),if_pos ⟨rfl,rfl,rfl⟩]
theorem sys_some {w:World}{n i o:Int}{cs:List Cs}{an:Int}{ss:Jc}{r:Int}{sv:Value}(hA:AdvV w sv an ss) (h:bldE n i o cs an ss r=0) (hfew:fewP n i o cs an ss r=true):0 < (sysP n.toNat cs (wL ss r.toNat 0)).2.length:=by
 obtain⟨hc,hfa,hft,hn⟩:=bldE_zero h hfew;obtain⟨c1,c2,c3,c4,c5⟩:=chkP_zero hc;obtain⟨l1,l2⟩:=chkT_len c1;have hO:=(chk_cls hA hfa c2).wd;have h1:=cnt_posW hO r.toNat 0 hO.2.2.1;show 0 < (exeL n.toNat [] (pairsP cs (wL ss r.toNat 0))).2.length;rw[exeL_len,pairsP_len,wL_len];exact Nat.mul_pos (by omega) (by omega)
theorem protSimplexG {w:World}{v:Value}{n i o an r tn:Int}{j:Nat}{cs:List Cs}{ss:Jc}{vs:Jb}{xs:List Ex}(h:SysV w v n i o cs an ss r tn vs xs) (hfew:fewP n i o cs an ss r=true) (hz:verE n i o cs an ss r tn vs xs=0) (hj:j < xs.length) :
  Calls Tryz.prog 23 #[v,.int .i64 (j:Int)] w fun e w'=>∃v',e = .returned (.tuple #[v',.int .i64 (if (simX n.toNat r.toNat (xs.getD j exNil)).length=0 then 16 else 0)])/\KS 2 w' v' (simX n.toNat r.toNat (xs.getD j exNil))/\Below w.heap.size w w':=by
 refine(protSimplex (idx:=(j:Int)) h hfew).mono ?_;rintro e w' ⟨v',rfl,hk,hb⟩;rw[hz,Int.toNat_natCast] at hk|-;obtain⟨s,hs⟩:=exE (simX n.toNat r.toNat (xs.getD j exNil));rw[hs] at hk|-
 have he:simE 0 (j:Int) xs.length s=if s.length=0 then 16 else 0:=by
  unfold simE;rw[if_neg (fun h=>h rfl),if_neg (by omega)]
 rw[he] at hk|-;refine⟨v',rfl,?_,hb⟩;by_cases h0:s.length=0
 ·rw[if_pos h0,if_neg (by decide)] at hk;rw[List.eq_nil_of_length_eq_zero h0];exact hk
 ·rw[if_neg h0,if_pos rfl] at hk;exact hk
theorem lawShares {w:World}{v:Value}{n i o an r:Int}{cs:List Cs}{ss:Jc}{a0 a1:Nat}(h:PrV w v n i o cs an ss r) (ha0:a0 < 256) (ha1:a1 < 256) :
  Calls Tryz.prog 6 #[v,.agg #[.int .u8 (a0:Int),.int .u8 (a1:Int)]] w (Yes w):=by
 have hmx : Tryz.prog.follows .mixedOrders=true:=by kernel_rfl
 have HR:=qH (fun W (hb:Below w.heap.size w W)=>refRightC (h.keep hb));have HB:=qH (fun W (hb:Below w.heap.size w W) (hf:fewP n i o cs an ss r=true)=>buildAll (h.keep hb) hf);have hh:=qH h;obtain⟨a,c,a',c',rfl,-,-⟩:=h;obtain⟨W1,hW1⟩:=exF ((w.alloc (.cells #[.int .i64 n,.int .i64 i,.int .i64 o,.slice a cs.length c,.int .i64 an,.slice a' ss.length c',.int .i64 r] 29)).alloc (.cells #[.int .u8 (a0:Int),.int .u8 (a1:Int)] 71));have hb1:Below w.heap.size w W1:=by rw[hW1];exact((Below.refl _ w).alloc (Nat.le_refl _) _).alloc (by simp) _
 have kT:W1.heap[w.heap.size]? = some (.cells #[.int .i64 n,.int .i64 i,.int .i64 o,.slice a cs.length c,.int .i64 an,.slice a' ss.length c',.int .i64 r] 29):=by
  rw[hW1];exact(Below.heap_alloc _ _ _ (by simp)).trans (heap_alloc_new w _)
 have kU:W1.heap[w.heap.size+1]? = some (.cells #[.int .u8 (a0:Int),.int .u8 (a1:Int)] 71):=by
  rw[hW1];have:=heap_alloc_new (w.alloc (.cells #[.int .i64 n,.int .i64 i,.int .i64 o,.slice a cs.length c,.int .i64 an,.slice a' ss.length c',.int .i64 r] 29)) (.cells #[.int .u8 (a0:Int),.int .u8 (a1:Int)] 71)
  rwa [World.size_alloc] at this
 have HK:=qH (fun W (hb:Below W1.heap.size W1 W)=>keep7 hb (box7' kT));have HU:=qH (fun W (hb:Below W1.heap.size W1 W)=>And.intro (cell_kept hb (show W1.cell? ⟨w.heap.size+1,0,none⟩=some (.int .u8 (a0:Int)) by rw[cell_of_row _ _ 0 _ _ _ kU];rfl)) (cell_kept hb (show W1.cell? ⟨w.heap.size+1,1,none⟩=some (.int .u8 (a1:Int)) by rw[cell_of_row _ _ 1 _ _ _ kU];rfl)));obtain⟨g0,g1,g2,g3,g4,g5,g6⟩:=HK.out W1 (Below.refl _ _);rw[hW1] at g0 g1 g2 g3 g4 g5 g6;obtain⟨Q,hQ⟩:∃Q,(fewP n i o cs an ss r && decide (bldE n i o cs an ss r=0))=Q:=⟨_,rfl⟩;simp only[hQ] at HR;clear kT kU;go_enter Tryz.func6, Tryz.ntmps6
 go_wp2_with fail
 rw[<-hW1];replace hW1:=qH hW1;refine(HR.out W1 hb1).mono ?_;rintro e w2 ⟨rfl,hb2⟩;clear g0 g1 g2 g3 g4 g5 g6;cases Q
 ·clear hQ;go_wp2_with fail
  refine(awakeC w2).mono ?_;rintro e w3 ⟨rfl,hb3⟩;have hfin:=btt (btt hb1 hb2) hb3;go_wp2;go_ret;exact⟨rfl,hfin⟩
 rw[Bool.and_eq_true,decide_eq_true_eq] at hQ;obtain⟨hfew,hbld⟩:=hQ;obtain⟨g0,g1,g2,g3,g4,g5,g6⟩:=HK.out w2 hb2;have hb12:=btt hb1 hb2;have HC:=qH (HB.out w2 hb12 hfew)
 have hpos:0 < (sysP n.toNat cs (wL ss r.toNat 0)).2.length:=by
  obtain⟨_,_,_,_,_,_,hA⟩:=id hh.out;exact sys_some hA hbld hfew
 have hver:=verE_self hbld;obtain⟨vs,hvs⟩:=exE ((sysP n.toNat cs (wL ss r.toNat 0)).1);obtain⟨xs,hxs⟩:=exE ((sysP n.toNat cs (wL ss r.toNat 0)).2);rw[hvs,hxs] at hver;rw[hxs] at hpos;replace hbld:=qH hbld;replace hfew:=qH hfew;replace hver:=qH hver;go_wp2_with fail
 refine HC.out.mono ?_;rintro e w3 ⟨hO,hb3⟩;rcases hO with⟨hne,-⟩|⟨-,v',rfl,hS⟩
 ·exact absurd hbld.out hne
 rw[hvs,hxs] at hS;replace hvs:=qH hvs;replace hxs:=qH hxs;have hb13:=btt hb12 hb3;obtain⟨-,hn,hr,hr6,hG⟩:=sysG_ver hS hfew.out hver.out;obtain⟨N,hN⟩:=exE (n.toNat);obtain⟨K,hK⟩:=exE (r.toNat);rw[hN] at hn hG;rw[hK] at hr hG hr6;have hn1:=hG.n1;have hn5:=hG.n5;subst hn hr;replace hN:=qH hN;replace hK:=qH hK;have CS:=qH (fun W (hb:Below w3.heap.size w3 W) (j:Nat) (hj:j < xs.length)=>protSimplexG (hS.keep hb) hfew.out hver.out hj);have CO:=qH (fun W (hb:Below w3.heap.size w3 W) (j:Nat) (hj:j < xs.length)=>execObliged (hS.keep hb) hfew.out hver.out hj);obtain⟨sa,sc,sa',sc',va,vc,xa,xc,rfl,-,-,hX⟩:=hS;obtain⟨xb,xo,rfl,hXC⟩:=hX.at hpos;have HX:=qH (fun W (hb:Below w3.heap.size w3 W) j (hj:j < xs.length)=>(hXC.keep hb) j hj);obtain⟨L,hL⟩:=exE (xs.length);rw[hL] at hpos;simp only[hL] at HX CO CS;rw[hN.out,hK.out] at CS;rw[hL];have hxl:L<=60:=by rw[<-hL];exact hG.xl
 replace hL:=qH hL;obtain⟨W4,hW4⟩:=exF (w3.alloc (.cells #[.int .i64 (N:Int),.int .i64 i,.int .i64 o,.slice sa cs.length sc,.int .i64 an,.slice sa' ss.length sc',.int .i64 (K:Int),.int .i64 (N:Int),.slice va vs.length vc,.slice (some ⟨xb,xo,none⟩) L xc] 35));have hb4:Below w3.heap.size w3 W4:=by rw[hW4];exact(Below.refl _ _).alloc (Nat.le_refl _) _
 have kS:W4.heap[w3.heap.size]? = some (.cells #[.int .i64 (N:Int),.int .i64 i,.int .i64 o,.slice sa cs.length sc,.int .i64 an,.slice sa' ss.length sc',.int .i64 (K:Int),.int .i64 (N:Int),.slice va vs.length vc,.slice (some ⟨xb,xo,none⟩) L xc] 35):=by rw[hW4];exact heap_alloc_new _ _
 have HY:=qH (fun W (hb:Below W4.heap.size W4 W)=>And.intro (keep7 hb (box10' kS).1) (keep3' hb (box10' kS).2));obtain⟨⟨p0,p1,p2,p3,p4,p5,p6⟩,p7,p8,p9⟩:=HY.out W4 (Below.refl _ _);rw[hW4] at p9;have dl:((L:Int) == 0)=false:=beq_eq_false_iff_ne.2 (by omega);clear kS hX hXC g0 g1 g2 g3 g4 g5 g6 p0 p1 p2 p3 p4 p5 p6 p7 p8;go_upto_region 6 with fail
 rw[<-hW4];replace hW4:=qH hW4;clear p9
 have hrem:∀a:Nat,(a:Int).tmod (L:Int)=((a % L:Nat):Int):=fun a=>by
  rw[Int.tmod_eq_emod_of_nonneg (by omega)];simp
 obtain⟨j0,hj0⟩:=exE (a0 % L);obtain⟨j1,hj1⟩:=exE (a1 % L);have hl0:j0 < L:=by rw[<-hj0];exact Nat.mod_lt _ hpos
 have hl1:j1 < L:=by rw[<-hj1];exact Nat.mod_lt _ hpos
 have ht0:(a0:Int).tmod (L:Int)=(j0:Int):=by rw[<-hj0];exact hrem a0
 have ht1:(a1:Int).tmod (L:Int)=(j1:Int):=by rw[<-hj1];exact hrem a1
 have hLn : ¬(L=0):=by omega
 have hw0:IntKind.i64.wrap (a0:Int)=(a0:Int):=IntWalk.i64_in _ (by omega);have hw1:IntKind.i64.wrap (a1:Int)=(a1:Int):=IntWalk.i64_in _ (by omega);clear hj0 hj1 hrem;refine wp_region_bw hmx (by kernel_rfl) ?_
 repeat (refine WQ.step fun K hK=>?_;go_simp;first|(refine hK _ ?_;clear hK K)|(apply Exists.intro;refine⟨fun wq hC=>?_,hK _ ?_⟩;(·(first|with_reducible rfl|(obtain⟨u0,u1⟩:=HU.out wq (btt (btt hb2 (btt hb3 hb4)) hC);obtain⟨⟨p0,p1,p2,p3,p4,p5,p6⟩,p7,p8,p9⟩:=HY.out wq hC;go_simp;first|done|with_reducible rfl|with_reducible exact⟨rfl,rfl⟩)));clear hK K))
 refine WQ.nil ?_;intro w5 hb5;clear ht0 ht1 hLn hw0 hw1 ha0 ha1;obtain⟨⟨p0,p1,p2,p3,p4,p5,p6⟩,p7,p8,p9⟩:=HY.out w5 hb5;obtain⟨x,hx⟩:=exE (xs.getD j0 exNil);obtain⟨y,hy⟩:=exE (xs.getD j1 exNil);have D5:=btt hb4 hb5;have HC1:=qH (CS.out w5 D5 j0 hl0);rw[hx] at HC1;obtain⟨z1,hz1⟩:∃z,(if (simX N K x).length=0 then (16:Int) else 0)=z:=⟨_,rfl⟩;rw[hz1] at HC1;clear hz1;go_wp2_with fail
 refine HC1.out.mono ?_;rintro e w6 ⟨v6,rfl,hK6,hb6⟩;obtain⟨ka,kc,rfl⟩:=hK6.shape;have D6:=btt D5 hb6;have E6:=btt hb5 hb6;clear p0 p1 p2 p3 p4 p5 p6 p7 p8 p9 HC1;obtain⟨⟨p0,p1,p2,p3,p4,p5,p6⟩,p7,p8,p9⟩:=HY.out w6 E6;have HC2:=qH (CS.out w6 D6 j1 hl1);rw[hy] at HC2;obtain⟨z2,hz2⟩:∃z,(if (simX N K y).length=0 then (16:Int) else 0)=z:=⟨_,rfl⟩;rw[hz2] at HC2;clear hz2;go_wp2_with fail
 refine HC2.out.mono ?_;rintro e w7 ⟨v7,rfl,hK7,hb7⟩;obtain⟨ma,mc,rfl⟩:=hK7.shape;obtain⟨W8,hW8⟩:=exF (w7.alloc (.cells #[.slice ma (simX N K y).length mc] 38));have hb8:Below w7.heap.size w7 W8:=by rw[hW8];exact(Below.refl _ _).alloc (Nat.le_refl _) _
 have k8:W8.heap[w7.heap.size]? = some (.cells #[.slice ma (simX N K y).length mc] 38):=by rw[hW8];exact heap_alloc_new _ _
 have hb78:=btt hb7 hb8;have D8:=btt D6 hb78;have E8:=btt E6 hb78;have HV:=qH (fun W (hb:Below W8.heap.size W8 W)=>And.intro (hK6.keep (btt hb78 hb)) (And.intro (hK7.keep (btt hb8 hb)) (cell_kept hb (cell_of_one k8))));clear p0 p1 p2 p3 p4 p5 p6 p7 p8 p9 HC2 hK6 hK7 k8;obtain⟨⟨p0,p1,p2,p3,p4,p5,p6⟩,p7,p8,p9⟩:=HY.out W8 E8;have HC3:=qH (CO.out W8 D8 j0 hl0);rw[hx] at HC3;obtain⟨mx,hmxe⟩:=exE (mskX N x);obtain⟨my,hmye⟩:=exE (mskX N y);rw[hmxe] at HC3;replace hmxe:=qH hmxe;replace hmye:=qH hmye;go_upto_region 9 with fail
 rw[<-hW8];replace hW8:=qH hW8;go_wp2_with fail
 refine HC3.out.mono ?_;rintro e w9 ⟨rfl,hb9⟩;clear p0 p1 p2 p3 p4 p5 p6 p7 p8 p9 HC3;obtain⟨⟨p0,p1,p2,p3,p4,p5,p6⟩,p7,p8,p9⟩:=HY.out w9 (btt E8 hb9);have HC4:=qH (CO.out w9 (btt D8 hb9) j1 hl1);rw[hy,hmye.out] at HC4;go_wp2_with fail
 refine HC4.out.mono ?_;rintro e wa ⟨rfl,hba⟩;have hb9a:=btt hb9 hba;have Da:=btt D8 hb9a;have Ea:=btt E8 hb9a;have Wa:=btt hb2 (btt hb3 Da);clear p0 p1 p2 p3 p4 p5 p6 p7 p8 p9 HC4;obtain⟨x1,x2,-,-,qx2,-,kx2⟩:=HX.out wa Da j0 hl0;obtain⟨y1,y2,-,-,qy2,-,ky2⟩:=HX.out wa Da j1 hl1;have gx:=hG.ex x (by rw[<-hx,getD_eq (by rw[hL.out];exact hl0)];exact List.getElem_mem _);have gy:=hG.ex y (by rw[<-hy,getD_eq (by rw[hL.out];exact hl1)];exact List.getElem_mem _);rw[hx] at kx2;rw[hy] at ky2;obtain⟨va1,vc1,vb1,vo1,rfl,hva1,hvc1,-⟩:=kx2;obtain⟨va2,vc2,vb2,vo2,rfl,hva2,hvc2,-⟩:=ky2;obtain rfl:=hva1 (by rw[gx.vw];omega);obtain rfl:=hva2 (by rw[gy.vw];omega);obtain⟨lx,clx,klx⟩:=hvc1 K (by rw[gx.vw];omega);obtain⟨ly,cly,kly⟩:=hvc2 K (by rw[gy.vw];omega);obtain⟨xa1,xc1,xb1,xo1,rfl,hxa1,hxc1,-⟩:=klx;obtain⟨ya1,yc1,yb1,yo1,rfl,hya1,hyc1,-⟩:=kly;obtain rfl:=hxa1 (by rw[gx.fin];omega);obtain rfl:=hya1 (by rw[gy.fin];omega);rw[gx.vw] at qx2;rw[gy.vw] at qy2;rw[gx.fin] at clx;rw[gy.fin] at cly;obtain⟨lX,hlX⟩:=exE (x.2.2.getD K []);obtain⟨lY,hlY⟩:=exE (y.2.2.getD K []);have fx:=gx.fin;have fy:=gy.fin;rw[hlX] at hxc1 fx;rw[hlY] at hyc1 fy;have HQ:=qH (fun W (hb:Below wa.heap.size wa W)=>And.intro (And.intro (cell_kept hb qx2) (cell_kept hb qy2)) (And.intro (cell_kept hb clx) (cell_kept hb cly)));have HE:=qH (fun W (hb:Below wa.heap.size wa W) (p:Nat) (hp:p < N)=>And.intro (cell_kept hb (hxc1 p (by omega))) (cell_kept hb (hyc1 p (by omega))))
 have hplain:Hid (∀q:Nat,q < N->(simX N K x).any (shB (q:Int) (simX N K y))=(bits .and .i64 (mx / 2 ^ q) 1 == 1 && (bits .and .i64 (my / 2 ^ q) 1 == 1 && decide (lX.getD q 0=lY.getD q 0)))):=fun q hq=>by
  rw[shared_iff hq,<-hmxe.out,<-hmye.out,msk_bit (by omega) (by omega) gx.f0 gx.f1 (by omega),msk_bit (by omega) (by omega) gy.f0 gy.f1 (by omega),hlX,hlY]
 obtain⟨sX,hsX⟩:=exE (simX N K x);obtain⟨sY,hsY⟩:=exE (simX N K y);rw[hsX,hsY] at hplain HV|-;replace hlX:=qH hlX;replace hlY:=qH hlY;replace fx:=qH fx;replace fy:=qH fy;have d0:(j0:Int) < (L:Int):=by omega
 have d1:(j1:Int) < (L:Int):=by omega
 clear qx2 qy2 clx cly hxc1 hyc1 hvc1 hvc2 hva1 hva2 hxa1 hya1 gx gy hsX hsY hx hy;go_upto_region 11 with fail
 refine wp_region_bw hmx (by kernel_rfl) ?_
 repeat (refine WQ.step fun K hK=>?_;go_simp;first|(refine hK _ ?_;clear hK K)|(apply Exists.intro;refine⟨fun wq hC=>?_,hK _ ?_⟩;(·(first|with_reducible rfl|(obtain⟨⟨r0,r1⟩,r2,r3⟩:=HQ.out wq hC;obtain⟨⟨p0,p1,p2,p3,p4,p5,p6⟩,p7,p8,p9⟩:=HY.out wq (btt Ea hC);go_simp;first|done|with_reducible rfl|with_reducible exact⟨rfl,rfl⟩)));clear hK K))
 refine WQ.nil ?_;intro wb hbb;have hwr:IntKind.i64.wrap ((K:Int)+1)=((K+1:Nat):Int):=by rw[IntWalk.i64_in _ (by omega)];omega
 have hk1:(K:Int) < (K:Int)+1:=by omega
 go_upto_region 12 with fail
 refine wp_region_bw hmx (by kernel_rfl) ?_
 repeat (refine WQ.step fun K hK=>?_;go_simp;first|(refine hK _ ?_;clear hK K)|(apply Exists.intro;refine⟨fun wq hC=>?_,hK _ ?_⟩;(·(first|with_reducible rfl|(obtain⟨⟨r0,r1⟩,r2,r3⟩:=HQ.out wq (btt hbb hC);obtain⟨g0,g1,g2,g3,g4,g5,g6⟩:=HK.out wq (btt Wa (btt hbb hC));go_simp;first|done|with_reducible rfl|with_reducible exact⟨rfl,rfl⟩)));clear hK K))
 refine WQ.nil ?_;intro wc hbc;have Wc:=btt Wa (btt hbb hbc);have Ac:=btt hbb hbc;clear hwr;obtain⟨g0,g1,g2,g3,g4,g5,g6⟩:=HK.out wc Wc;go_wp2_with fail
 go_loopw [137] (fun iv wr=>∃q:Nat,iv = .int .i64 q/\q<=N/\Below wc.heap.size wc wr) (fun iv _=>N - (intOf iv).toNat)
 case atStart=>exact⟨0,rfl,by omega,Below.refl _ _⟩
 case round=>
  clear g0 g1 g2 g3 g4 g5 g6;obtain⟨q,rfl,hq,hbr⟩:=hrel;by_cases hlt:q < N
  ·obtain⟨Wq,hWq⟩:=exF (wr.alloc (.cells #[.int .i64 (q:Int)] 3));have hbq:Below wr.heap.size wr Wq:=(by rw[hWq];exact(Below.refl _ _).alloc (Nat.le_refl _) _);have kq:Wq.heap[wr.heap.size]? = some (.cells #[.int .i64 (q:Int)] 3):=(by rw[hWq];exact heap_alloc_new _ _);have cq:=cell_of_one kq;have Aq:=btt Ac (btt hbr hbq);obtain⟨v1,v2,v3⟩:=HV.out Wq (btt hb9a Aq);have HC:=qH (containsSh v1 cq v3 v2);rw[hplain.out q hlt] at HC;obtain⟨B1,hB1⟩:∃B,(bits BinOp.and IntKind.i64 (mx / 2 ^ q) 1 == 1)=B:=⟨_,rfl⟩;obtain⟨B2,hB2⟩:∃B,(bits BinOp.and IntKind.i64 (my / 2 ^ q) 1 == 1)=B:=⟨_,rfl⟩;rw[hB1,hB2] at HC;have HEq:=qH (fun W (hb:Below wa.heap.size wa W)=>HE.out W hb q hlt);obtain⟨u,hu⟩:=exE (lX.getD q 0);obtain⟨v,hv⟩:=exE (lY.getD q 0);rw[hu,hv] at HC;simp only[hu,hv] at HEq;have HQq:=qH (fun W (hb:Below Wq.heap.size Wq W)=>cell_kept hb cq);have hqN:(q:Int) < (N:Int):=(by omega);have hq64:q<=64:=(by omega);have hq0:(0:Int)<=(q:Int):=(by omega);have hw1:IntKind.i64.wrap ((q:Int)+1)=((q+1:Nat):Int):=(by rw[IntWalk.i64_in _ (by omega)];omega);clear v1 v2 v3 cq kq hu hv;go_upto_region 17 with fail
   rw[<-hWq];replace hWq:=qH hWq;obtain⟨-,-,v3⟩:=HV.out Wq (btt hb9a Aq);go_wp2_with fail
   refine HC.out.mono ?_;rintro e we ⟨rfl,hbe⟩;clear v3 HC;go_upto_region 18 with fail
   have hcases:(B1=false\/(B1=true/\B2=false))\/(B1=true/\B2=true)/\(u=v\/u ≠ v):=by
    cases B1
    ·exact .inl (.inl rfl)
    ·cases B2
     ·exact .inl (.inr ⟨rfl,rfl⟩)
     ·exact .inr ⟨⟨rfl,rfl⟩,Decidable.em _⟩
   rcases hcases with(h1|⟨h1,h2⟩)|⟨⟨h1,h2⟩,h3|h3⟩
   case' inr.inr=>have hz:(u == v)=false:=beq_eq_false_iff_ne.2 h3
   case' inr.inr=>rw[decide_eq_false h3]
   case' inr.inl=>subst h3
   case' inr.inl=>rw[decide_eq_true rfl]
   case' inl.inr=>subst h2
   case' inr.inl=>subst h2
   case' inr.inr=>subst h2
   all_goals
    subst h1;refine wp_region_bw hmx (by kernel_rfl) ?_
    repeat (refine WQ.step fun K hK=>?_;go_simp;first|(refine hK _ ?_;clear hK K)|(apply Exists.intro;refine⟨fun wq hC=>?_,hK _ ?_⟩;(·(first|with_reducible rfl|(obtain⟨⟨r0,r1⟩,r2,r3⟩:=HQ.out wq (btt (btt Ac (btt hbr (btt hbq hbe))) hC);obtain⟨e0,e1⟩:=HEq.out wq (btt (btt Ac (btt hbr (btt hbq hbe))) hC);obtain⟨g0,g1,g2,g3,g4,g5,g6⟩:=HK.out wq (btt Wa (btt (btt Ac (btt hbr (btt hbq hbe))) hC));have c19:=HQq.out wq (btt hbe hC);go_simp;first|done|with_reducible rfl|with_reducible exact⟨rfl,rfl⟩)));clear hK K))
    refine WQ.nil ?_;intro wf hbf;go_wp2_with fail
    go_roundw
    case rel=>exact⟨q+1,by go_num,hlt,btt hbr (btt hbq (btt hbe hbf))⟩
    case measure=>simp[intOf];omega
  ·obtain rfl:q=N:=(by omega);go_wp2_with fail
   refine(awakeC wr).mono ?_;rintro e we ⟨rfl,hbe⟩;have hfin:=btt (btt hb1 (btt Wc hbr)) hbe;go_wp2;go_ret;exact⟨rfl,hfin⟩
end Go.Proofs.YtcnedkkcgdkioaaGreat
