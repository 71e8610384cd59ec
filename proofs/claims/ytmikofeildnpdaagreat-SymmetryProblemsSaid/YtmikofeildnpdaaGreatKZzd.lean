/- Texts of this claim, put together: ZA ZF ZH YE YO0 YO1 ZP ZQ YL ZU ZV. -/
import Derived.Test.YtmikofeildnpdaaGreatKZza
import Derived.Test.YtmikofeildnpdaaGreatKZzb
import Derived.Test.YtmikofeildnpdaaGreatKZz
import Derived.Test.YtmikofeildnpdaaGreatKZzc

set_option maxRecDepth 100000
set_option maxHeartbeats 12800000
namespace Go.Proofs.YtmikofeildnpdaaGreat
open Go.RowKit
theorem equivC {w:World}{u v:Value}{m n:Int}{aa bb:List (List (List Int))}(ha:AdvC w u m aa) (hb:AdvC w v n bb) (he:eqErr m n aa bb=0) (wa:WfS aa) (wb:WfS bb) (la:aa.length≤100) (lb:bb.length≤100) (ma:∀s∈aa,s.length≤50000) (mb:∀s∈bb,s.length≤50000) (mna:movesN aa≤1000000000) (mnb:movesN bb≤1000000000) :
  Calls Tryz.prog 43 #[u,v] w fun e w'=>∃l r,e = .returned (.tuple #[l,.bool r,.int .i64 0])∧(r=true↔eqW aa bb)∧Below w.heap.size w w':=by
 have HA:=qH ha;have HB:=qH hb;obtain⟨xa,xc,hu⟩:=advShape' ha.adv;obtain⟨ya,yc,hv⟩:=advShape' hb.adv;subst hu hv;obtain⟨W1,hW1⟩:=exF ((w.alloc (.cells #[.int .i64 m,.slice xa aa.length xc] 24)).alloc (.cells #[.int .i64 n,.slice ya bb.length yc] 24));obtain⟨hb1,⟨p0,p1⟩,⟨q0,q1⟩,_,_⟩:=boxAdv2 hW1;have HX:=bothC (ha.adv.keep hb1) (hb.adv.keep hb1) mna mnb;rw[he] at HX;replace HX:=qH HX;have HS:=qH (fun W (h:Below W1.heap.size W1 W)=>searchC ((HA.out.keep hb1).keep h) ((HB.out.keep hb1).keep h) wa wb la lb ma mb);have hK:=qH (fun W (hb:Below W1.heap.size W1 W)=>And.intro (cell_kept hb p0) (And.intro (cell_kept hb p1) (And.intro (cell_kept hb q0) (cell_kept hb q1))));clear ha hb he wa wb la lb ma mb mna mnb;go_enter Tryz.func43, Tryz.ntmps43
 go_wp2_with fail
 rw[←hW1];replace hW1:=qH hW1;refine HX.out.mono ?_;rintro e W2 ⟨rfl,hb2⟩;clear p0 p1 q0 q1;obtain⟨k0,k1,k2,k3⟩:=hK.out W2 hb2;go_wp2_with fail
 refine(HS.out W2 hb2).mono ?_;rintro e W3 ⟨l,wd,rfl,hor,hb3⟩;have hb13:=bt hb1 (btt hb2 hb3) hb1.size;clear k0 k1 k2 k3 hK HS HX HA HB;rcases hor with⟨heq,rfl⟩|⟨hne,p,k,c,rfl,hk⟩
 ·have hq:=Lib.run_eql_slice_nil (P:=Tryz.prog) W3 78 87 none 0 0 0 0 (by kernel_rfl);simp only[Option.isNone_none] at hq;go_wp2;go_ret3
  exact⟨_,true,rfl,⟨fun _=>heq,fun _=>rfl⟩,hb13⟩
 ·have hq:=Lib.run_eql_slice_nil (P:=Tryz.prog) W3 78 87 (some p) k c 0 0 (by kernel_rfl);simp only[Option.isNone_some] at hq;go_wp2;go_ret3
  exact⟨_,false,rfl,⟨fun h=>(by cases h),fun h=>absurd h hne⟩,hb13⟩
def perE (n:Int) (ss:List (List (List Int))) (a:List Int):Int:=if chkA n ss ≠ 0 then chkA n ss else fitE a n
theorem OwAdv.zero (w:World):OwAdv w (.agg #[.int .i64 0,.slice none 0 0]) 0 []:=⟨_,rfl,OwX.nil _ _,by decide,by simp⟩
theorem fit_isP {n:Nat}{a:List Int}(h1:1≤n) (h5:n≤5):fitE a (n:Int)=0↔IsP n a:=by
 unfold fitE;constructor
 ·intro h;split at h
  ·rename_i k;exact absurd h k
  ·rename_i k
   split at h
   ·cases h
   ·rename_i k2
    have hz:=Decidable.not_not.1 k;have hl:a.length=n:=(by have:=Decidable.not_not.1 k2;omega);have:=(chk_iff.1 hz).2
    rwa [hl] at this
 ·intro h;rw[if_neg (fun k=>k (chk_of h1 h5 h)),if_neg (fun k=>k (by rw[h.1]))]
theorem mem8 {w:World}{v:Value}{n:Int}{ss:List (List (List Int))}(h:AdvV w v n ss):∀s∈ss,∀m∈s,m.length=8:=fun s hs m hm=>by
 obtain⟨sv,_,a,c,b,off,_,_,hc,_⟩:=h;obtain⟨j,hj,rfl⟩:=List.mem_iff_getElem.1 hs;obtain⟨u,_,_,_,_,_,_,_,hk,_⟩:=hc j hj;rw[getD_eq hj] at hk;obtain⟨i,hi,rfl⟩:=List.mem_iff_getElem.1 hm;have:=(hk i hi).1
 rwa [getD_eq hi] at this
theorem wfN_of {w:World}{v:Value}{n:Int}{ss:List (List (List Int))}(h:AdvV w v n ss) (hz:chkA n ss=0):∃k:Nat,n=(k:Int)∧WfN k ss:=by
 have h1:=(chkA_facts hz).1;obtain⟨k,rfl⟩:∃k:Nat,n=(k:Int):=⟨n.toNat,by omega⟩;exact⟨k,rfl,WfN.of (mem8 h) hz⟩
theorem permuteBad {w:World}{v u:Value}{n:Int}{a:List Int}{ss:List (List (List Int))}(hA:AdvV w v n ss) (hu:Ints w u a) (hm:movesN ss≤1000000000) (hE:perE n ss a ≠ 0) :
  Calls Tryz.prog 13 #[v,u] w fun e w'=>e = .returned (.tuple #[.agg #[.int .i64 0,.slice none 0 0],.int .i64 (perE n ss a)])∧Below w.heap.size w w':=by
 obtain⟨xa,xc,hv⟩:=advShape' hA;subst hv;obtain⟨W1,hW1⟩:=exF ((w.alloc (.cells #[.int .i64 n,.slice xa ss.length xc] 24)).alloc (.cells #[.int .i64 0,.slice none 0 0] 24));obtain⟨hb1,⟨p0,p1⟩,⟨q0,q1⟩,hm1,_⟩:=boxAdv2 hW1;have HX:=checkA (hA.keep hb1) hm;have HF:=qH (fun W (h:Below w.heap.size w W)=>fitsC (hu.keep h) n);have hK:=qH (fun W (hb:Below W1.heap.size W1 W)=>And.intro (cell_kept hb p0) (cell_kept hb p1));obtain⟨E,hE1⟩:=exE (chkA n ss);obtain⟨F,hF1⟩:=exE (fitE a n);have hr:perE n ss a=if E ≠ 0 then E else F:=by rw[perE,hE1,hF1]
 rw[hE1] at HX;rw[hr] at hE⊢;simp only[hF1] at HF;replace HX:=qH HX;obtain⟨ua,uc,hus⟩:∃ua uc,u = .slice ua a.length uc:=by obtain⟨ua,uc,_,_,h,_⟩:=hu;exact⟨ua,uc,h⟩
 subst hus;clear hr hE1 hF1 hA hu;by_cases h1:E=0
 ·subst h1;rw[if_neg (fun h=>h rfl)] at hE⊢;have hFb:(F != 0)=true:=by simp[hE]
  go_enter Tryz.func13, Tryz.ntmps13
  go_wp2_with fail
  rw[←hW1];replace hW1:=qH hW1;refine HX.out.mono ?_;rintro e W2 ⟨rfl,hb2⟩;clear p0 p1 q0 q1;obtain⟨k0,k1⟩:=hK.out W2 hb2;go_wp2_with fail
  refine(HF.out W2 (bt hb1 hb2 hb1.size)).mono ?_;rintro e W3 ⟨rfl,hb3⟩;have hb13:=btt hb2 hb3;have m3:=(hb13.block _ (Array.getElem?_eq_some_iff.1 hm1).1).trans hm1;obtain⟨z0,z1⟩:=boxL2 m3;obtain⟨f0,f1⟩:=freeL2 m3;have hfin:=bt hb1 hb13 hb1.size;clear k0 k1 HX HF hK hm1;go_wp2;refine storeEnd2 (u0:=.int .i64 0) (u1:=.slice none 0 0) m3 ?_;intro W9 hW9 hb9 _ _ e0 e1;rw[←hW9];refine bodyPost_ret (v:=.tuple #[.agg #[.int .i64 0,.slice none 0 0],.int .i64 F]) (by simp[results,Tryz.results13,go_sem,e0,e1]) rfl ?_;exact⟨rfl,hb9 _ _ (by omega) hfin⟩
 ·rw[if_pos h1];have hEb:(E != 0)=true:=by simp[h1]
  go_enter Tryz.func13, Tryz.ntmps13
  go_wp2_with fail
  rw[←hW1];replace hW1:=qH hW1;refine HX.out.mono ?_;rintro e W3 ⟨rfl,hb13⟩;clear p0 p1 q0 q1;have m3:=(hb13.block _ (Array.getElem?_eq_some_iff.1 hm1).1).trans hm1;obtain⟨z0,z1⟩:=boxL2 m3;obtain⟨f0,f1⟩:=freeL2 m3;have hfin:=bt hb1 hb13 hb1.size;clear HX HF hK hm1;go_wp2;refine storeEnd2 (u0:=.int .i64 0) (u1:=.slice none 0 0) m3 ?_;intro W9 hW9 hb9 _ _ e0 e1;rw[←hW9];refine bodyPost_ret (v:=.tuple #[.agg #[.int .i64 0,.slice none 0 0],.int .i64 E]) (by simp[results,Tryz.results13,go_sem,e0,e1]) rfl ?_;exact⟨rfl,hb9 _ _ (by omega) hfin⟩
theorem permuteGood {w:World}{v u:Value}{n:Nat}{a:List Int}{ss:List (List (List Int))}(hA:AdvV w v n ss) (hu:Ints w u a) (hm:movesN ss≤1000000000) (hW:WfN n ss) (ha:IsP n a) :
  Calls Tryz.prog 13 #[v,u] w fun e w'=>∃r,e = .returned (.tuple #[r,.int .i64 0])∧OwAdv w' r n (renA a ss)∧Below w.heap.size w w':=by
 have hAk:=qH hA;obtain⟨xa,xc,hv⟩:=advShape' hA;subst hv;obtain⟨W1,hW1⟩:=exF ((w.alloc (.cells #[.int .i64 (n:Int),.slice xa ss.length xc] 24)).alloc (.cells #[.int .i64 0,.slice none 0 0] 24));obtain⟨hb1,⟨p0,p1⟩,⟨q0,q1⟩,hm1,_⟩:=boxAdv2 hW1;have HX:=checkA (hA.keep hb1) hm;have HF:=fun W (h:Below w.heap.size w W)=>fitsC (hu.keep h) (n:Int);have HR:=qH (fun W (h:Below w.heap.size w W)=>renamedC (hAk.out.keep h) hW ha (hu.keep h));have hK:=qH (fun W (hb:Below W1.heap.size W1 W)=>And.intro (cell_kept hb p0) (cell_kept hb p1));rw[hW.chk] at HX;simp only[(fit_isP hW.h1 hW.h5).2 ha] at HF;replace HF:=qH HF;replace HX:=qH HX;obtain⟨ua,uc,hus⟩:∃ua uc,u = .slice ua a.length uc:=by obtain⟨ua,uc,_,_,h,_⟩:=hu;exact⟨ua,uc,h⟩
 subst hus;clear hA hu hW ha;go_enter Tryz.func13, Tryz.ntmps13
 go_wp2_with fail
 rw[←hW1];replace hW1:=qH hW1;refine HX.out.mono ?_;rintro e W2 ⟨rfl,hb2⟩;clear p0 p1 q0 q1;obtain⟨k0,k1⟩:=hK.out W2 hb2;go_wp2_with fail
 refine(HF.out W2 (bt hb1 hb2 hb1.size)).mono ?_;rintro e W3 ⟨rfl,hb3⟩;clear k0 k1;have hb13:=btt hb2 hb3;obtain⟨k0,k1⟩:=hK.out W3 hb13;go_wp2_with fail
 refine(HR.out W3 (bt hb1 hb13 hb1.size)).mono ?_;rintro e W4 ⟨r,rfl,hO,hb4⟩;have hb14:=btt hb13 hb4;have m3:=(hb14.block _ (Array.getElem?_eq_some_iff.1 hm1).1).trans hm1;obtain⟨z0,z1⟩:=boxL2 m3;obtain⟨f0,f1⟩:=freeL2 m3;have hfin:=bt hb1 hb14 hb1.size;obtain⟨sv,rfl,hO1,hO2⟩:=hO;obtain⟨ra,rc,rfl⟩:=hO1.shape;obtain⟨RS,hRS⟩:=exE (renA a ss);rw[hRS] at hO1 hO2⊢;replace hRS:=qH hRS;clear k0 k1 HX HF HR hK hm1 hAk;go_wp2;refine storeEnd2 (u0:=.int .i64 (n:Int)) (u1:=.slice ra RS.length rc) m3 ?_;intro W9 hW9 hb9 hk9 _ e0 e1;rw[←hW9];refine bodyPost_ret (v:=.tuple #[.agg #[.int .i64 (n:Int),.slice ra RS.length rc],.int .i64 0]) (by simp[results,Tryz.results13,go_sem,e0,e1]) rfl ?_;exact⟨_,rfl,by rw[hRS.out];exact⟨_,rfl,hO1.other (ESt.stab (by decide)) (by decide) hk9,hO2⟩,hb9 _ _ (by omega) hfin⟩
noncomputable def kpG (ss:List (List (List Int))) (a:List Int):Bool:=@decide (kpA ss a) (Classical.propDecidable _)
theorem kpG_iff {ss:List (List (List Int))}{a:List Int}:kpG ss a=true↔kpA ss a:=@decide_eq_true_iff _ (Classical.propDecidable _)
noncomputable def invR (n:Int) (ss:List (List (List Int))) (a:List Int):Bool:=if perE n ss a=0 then kpG ss a else false
structure FewS (ss:List (List (List Int))):Prop where
 l:ss.length≤100
 m:movesN ss≤50000
theorem FewS.st {ss:List (List (List Int))}(h:FewS ss):∀s∈ss,s.length≤50000:=fun _ hs=>Nat.le_trans (mem_movesN hs) h.m
theorem FewS.ren {ss:List (List (List Int))}(h:FewS ss) (a:List Int):FewS (renA a ss):=⟨by rw[renA,List.length_map];exact h.l,by rw[movesN_ren];exact h.m⟩
theorem eqErr_z21 {n:Nat}{xs ys:List (List (List Int))}(hx:WfN n xs) (hy:WfN n ys):eqErr n n xs ys=0:=by
 rw[eqErr,hx.chk,hy.chk];simp
theorem invariantC {w:World}{v u:Value}{n:Int}{a:List Int}{ss:List (List (List Int))}(hA:AdvC w v n ss) (hu:Ints w u a) (hF:FewS ss) :
  Calls Tryz.prog 15 #[v,u] w fun e w'=>e = .returned (.tuple #[.bool (invR n ss a),.int .i64 (perE n ss a)])∧Below w.heap.size w w':=by
 have hAk:=qH hA;have hm:movesN ss≤1000000000:=by have:=hF.m;omega
 obtain⟨xa,xc,hv⟩:=advShape' hA.adv;subst hv;obtain⟨ua,uc,hus⟩:∃ua uc,u = .slice ua a.length uc:=by obtain⟨ua,uc,_,_,h,_⟩:=hu;exact⟨ua,uc,h⟩
 subst hus;obtain⟨W1,hW1⟩:=exF (w.alloc (.cells #[.int .i64 n,.slice xa ss.length xc] 24));obtain⟨hb1,p0,p1,_⟩:=boxAdv hW1;have hK:=qH (fun W (hb:Below W1.heap.size W1 W)=>And.intro (cell_kept hb p0) (cell_kept hb p1));obtain⟨E,hE⟩:=exE (perE n ss a);obtain⟨R,hR⟩:=exE (invR n ss a);by_cases h0:E=0
 ·subst h0
  have hcz:chkA n ss=0:=by
   unfold perE at hE;split at hE
   ·rename_i k;exact absurd hE k
   ·rename_i k;exact Decidable.not_not.1 k
  obtain⟨k,rfl,hW⟩:=wfN_of hA.adv hcz
  have ha:IsP k a:=by
   unfold perE at hE;rw[if_neg (fun h=>h hcz)] at hE;exact(fit_isP hW.h1 hW.h5).1 hE
  have hWr:=hW.ren ha;have HP:=qH (permuteGood (hA.adv.keep hb1) (hu.keep hb1) hm hW ha);have HE:=qH (fun W (h:Below W1.heap.size W1 W) (r:Value) (hr:OwAdv W r k (renA a ss))=>equivC ((hA.keep hb1).keep h) hr.advC (eqErr_z21 hW hWr) hW.s hWr.s hF.l (hF.ren a).l hF.st (hF.ren a).st hm (by rw[movesN_ren];exact hm))
  have hRk:Hid (∀r:Bool,(r=true↔eqW ss (renA a ss))→r=R):=fun r hr=>by
   rw[←hR,invR,if_pos hE,Bool.eq_iff_iff,hr,kpG_iff];exact Iff.rfl
  rw[hE,hR];obtain⟨RS,hRS⟩:=exE (renA a ss);rw[hRS] at HP HE hRk;clear hA hu hW ha hWr hF hE hR hRS;go_enter Tryz.func15, Tryz.ntmps15
  go_wp2_with fail
  rw[←hW1];replace hW1:=qH hW1;refine HP.out.mono ?_;rintro e W2 ⟨r,rfl,hO,hb2⟩;have hOk:=qH hO;obtain⟨sv,rfl,hO1,_⟩:=hO;obtain⟨ra,rc,rfl⟩:=hO1.shape;obtain⟨W3,hW3⟩:=exF (W2.alloc (.cells #[.int .i64 (k:Int),.slice ra RS.length rc] 24));obtain⟨hb3,r0,r1,_⟩:=boxAdv hW3;have hb13:=btt hb2 hb3;clear p0 p1;obtain⟨p0,p1⟩:=hK.out W3 hb13;have HE3:=qH (HE.out W3 hb13 _ (hOk.out.keep hb3));clear HE hK hO1 hOk HP;go_upto_region 2 with fail
  rw[←hW3];replace hW3:=qH hW3;go_wp2_with fail
  refine HE3.out.mono ?_;rintro e W4 ⟨l,rr,rfl,hrr,hb4⟩;have hrR:=hRk.out rr hrr;subst hrR;have hfin:=bt hb1 (btt hb13 hb4) hb1.size;clear hrr hRk HE3 p0 p1 r0 r1;go_wp2;go_ret2
  exact⟨rfl,hfin⟩
 ·have HP:=permuteBad (hA.adv.keep hb1) (hu.keep hb1) hm (by rw[hE];exact h0);rw[hE] at HP;have hRf:R=false:=by rw[←hR,invR,hE,if_neg h0]
  subst hRf;rw[hE,hR];replace HP:=qH HP;have hEb:(E != 0)=true:=by simp[h0]
  clear hA hu hE hR;go_enter Tryz.func15, Tryz.ntmps15
  go_wp2_with fail
  rw[←hW1];replace hW1:=qH hW1;refine HP.out.mono ?_;rintro e W2 ⟨rfl,hb2⟩;clear p0 p1 hK HP;go_wp2;go_ret2
  exact⟨rfl,by first|exact bt hb1 (hb2.alloc (Nat.le_refl _) _) hb1.size|exact bt hb1 (hb2.alloc hb2.size _) hb1.size⟩
noncomputable def grpL (n:Int) (ss:List (List (List Int))):List (List Int):=if chkA n ss=0 then (everyL n.toNat).filter (kpG ss) else []
theorem perE_zero {n:Nat}{ss:List (List (List Int))}{a:List Int}(hW:WfN n ss) (ha:IsP n a):perE n ss a=0:=by
 rw[perE,if_neg (fun h=>h hW.chk)];exact(fit_isP hW.h1 hW.h5).2 ha
theorem every_len {n:Nat}(h5:n≤5):(everyL n).length≤1000:=by
 have:n=0∨n=1∨n=2∨n=3∨n=4∨n=5:=by omega
 rcases this with rfl|rfl|rfl|rfl|rfl|rfl<;>decide +kernel
theorem group1 {w:World}{v:Value}{b n:Nat}{ss:List (List (List Int))}(hA:AdvC w v n ss) (hbx:w.heap[b]? = some (.cells v.cells 24)) (hF:FewS ss) (hW:WfN n ss) {x:List Int}(hx:IsP n x) {u:Value}(hu:Ints w u x) :
  Calls Tryz.prog 58 #[u,.pointer (some ⟨b,0,none⟩)] w fun e w'=>e = .returned (.tuple #[.bool (kpG ss x),.int .i64 0])∧Below w.heap.size w w':=by
 have HI:=invariantC hA hu hF;rw[invR,if_pos (perE_zero hW hx),perE_zero hW hx] at HI;replace HI:=qH HI;obtain⟨xa,xc,hv⟩:=advShape' hA.adv;subst hv;obtain⟨ua,uc,hus⟩:∃ua uc,u = .slice ua x.length uc:=by obtain⟨ua,uc,_,_,h,_⟩:=hu;exact⟨ua,uc,h⟩
 subst hus;obtain⟨p0,p1⟩:=boxL2 (show w.heap[b]? = some (.cells #[.int .i64 (n:Int),.slice xa ss.length xc] 24) from hbx);obtain⟨B,hB⟩:=exE (kpG ss x);rw[hB] at HI⊢;clear hA hF hW hx hu hbx hB;go_enter Tryz.func58, Tryz.ntmps58
 go_wp2_with fail
 refine HI.out.mono ?_;rintro e w1 ⟨rfl,hb1⟩;go_wp2;go_ret2
 exact⟨rfl,hb1⟩
theorem groupC {w:World}{v:Value}{n:Int}{ss:List (List (List Int))}(hA:AdvC w v n ss) (hF:FewS ss):Calls Tryz.prog 18 #[v] w (RII w (grpL n ss) (chkA n ss)):=by
 have hAk:=qH hA;have hm:movesN ss≤1000000000:=by have:=hF.m;omega
 obtain⟨xa,xc,hv⟩:=advShape' hA.adv;subst hv;obtain⟨W1,hW1⟩:=exF (w.alloc (.cells #[.int .i64 n,.slice xa ss.length xc] 24));obtain⟨hb1,p0,p1,m1⟩:=boxAdv hW1;have hK:=qH (fun W (hb:Below W1.heap.size W1 W)=>And.intro (cell_kept hb p0) (cell_kept hb p1));have HX:=checkA (hA.adv.keep hb1) hm;obtain⟨E,hE⟩:=exE (chkA n ss);rw[hE] at HX;replace HX:=qH HX;by_cases h0:E=0
 ·subst h0;obtain⟨k,rfl,hW⟩:=wfN_of hA.adv hE;have hgl:grpL k ss=(everyL k).filter (kpG ss):=by rw[grpL,if_pos hE,Int.toNat_natCast]
  have hne:numE (k:Int)=0:=by unfold numE;rw[if_neg];have:=hW.h1;have:=hW.h5;omega
  have hal:allL (k:Int)=everyL k:=by unfold allL;rw[if_pos hne,Int.toNat_natCast]
  have HAll:=fun W=>allCall (k:Int) W;simp only[hne,hal] at HAll;replace HAll:=qH HAll
  have HCh:=qH (fun W (hbW:Below W1.heap.size W1 W) (r:Value) B0 (hO:OII W B0 r (everyL k).length (everyL k))=>chosenG (caps:=#[.pointer (some ⟨w.heap.size,0,none⟩)]) (p:=kpG ss) hO (every_len hW.h5) fun W' hbW' x hx u hu=>by
   have hx':=mem_everyL.1 hx;have hbb:=btt hbW hbW';exact group1 ((hAk.out.keep hb1).keep hbb) ((hbb.block _ (Array.getElem?_eq_some_iff.1 m1).1).trans m1) hF hW hx' (hu.ints (by have:=hx'.1;have:=hW.h5;omega)))
  rw[hgl,hE];clear hA hF hW hE hgl hne hal;go_enter Tryz.func18, Tryz.ntmps18
  go_wp2_with fail
  rw[←hW1];replace hW1:=qH hW1;refine HX.out.mono ?_;rintro e W2 ⟨rfl,hb2⟩;clear p0 p1;obtain⟨p0,p1⟩:=hK.out W2 hb2;go_wp2_with fail
  refine(HAll.out W2).mono ?_;rintro e W3 ⟨r,rfl,hO,hb3⟩;have hOk:=qH hO;obtain⟨ra,rc,rfl⟩:=hO.shape;have hb13:=btt hb2 hb3;have HC3:=qH (HCh.out W3 hb13 _ _ hOk.out);clear p0 p1 hK HX HAll HCh hO;go_wp2_with fail
  refine HC3.out.mono ?_;rintro e W4 ⟨r2,rfl,hO2,hb4⟩;obtain⟨ra2,rc2,rfl⟩:=hO2.shape;have hfin:=bt hb1 (btt hb13 hb4) hb1.size;have hO3:=qH (hO2.base (B':=w.heap.size) (bt hb1 hb13 hb1.size).size);clear hO2 HC3;go_wp2;go_ret2
  exact⟨_,rfl,hO3.out,hfin⟩
 ·have hgl:grpL n ss = []:=by rw[grpL,if_neg (by rw[hE];exact h0)]
  rw[hgl,hE];have hEb:(E != 0)=true:=by simp[h0]
  clear hA hF hE hgl;go_enter Tryz.func18, Tryz.ntmps18
  go_wp2_with fail
  rw[←hW1];replace hW1:=qH hW1;refine HX.out.mono ?_;rintro e W2 ⟨rfl,hb2⟩;clear p0 p1 hK HX;go_wp2;go_ret2
  exact⟨_,rfl,OII.nil _ _,bt hb1 hb2 hb1.size⟩
theorem refKeeps {w:World}{v u:Value}{n:Nat}{a:List Int}{ss:List (List (List Int))}(hA:AdvC w v n ss) (hu:Ints w u a) (hF:FewS ss) (hW:WfN n ss) (ha:IsP n a) :
  Calls Tryz.prog 55 #[v,u] w fun e w'=>e = .returned (.bool (kpG ss a))∧Below w.heap.size w w':=by
 obtain⟨xa,xc,hv⟩:=advShape' hA.adv;subst hv;obtain⟨ua,uc,hus⟩:∃ua uc,u = .slice ua a.length uc:=by obtain⟨ua,uc,_,_,h,_⟩:=hu;exact⟨ua,uc,h⟩
 subst hus;obtain⟨W1,hW1⟩:=exF (w.alloc (.cells #[.int .i64 (n:Int),.slice xa ss.length xc] 24));obtain⟨hb1,p0,p1,_⟩:=boxAdv hW1;have hl1:w.heap.size < W1.heap.size:=World.block_lt_of_cell? W1 _ p0;have hWr:=hW.ren ha;have HR:=qH (refRenamedC ((hA.adv.keep hb1).keep ((Below.refl _ W1).drew)) hW ha ((hu.keep hb1).keep ((Below.refl _ W1).drew)));have HE:=qH (fun W (h:Below W1.heap.size W1 W) (r:Value) (hr:OwAdv W r n (renA a ss))=>refEquivC ((hA.keep hb1).keep h) hr.advC (eqErr_z21 hW hWr) hW.s hWr.s hF.l (hF.ren a).l hF.st (hF.ren a).st);obtain⟨R,hR⟩:=exE (kpG ss a)
 have hRk:Hid (∀r:Bool,(r=true↔eqW ss (renA a ss))→r=R):=fun r hr=>by
  rw[←hR,Bool.eq_iff_iff,hr,kpG_iff];exact Iff.rfl
 rw[hR];obtain⟨RS,hRS⟩:=exE (renA a ss);rw[hRS] at HR HE hRk;clear hA hu hF hW ha hWr hR hRS;go_enter Tryz.func55, Tryz.ntmps55
 go_wp2_with fail
 rw[←hW1];replace hW1:=qH hW1
 go_region_held3 (fun w'=>w'.cell? ⟨w.heap.size,0,none⟩=some (.int .i64 (n:Int))∧w'.cell? ⟨w.heap.size,1,none⟩=some (.slice xa ss.length xc))
  (first
   | go_keep
   | (exact⟨(hb9.cell (p:=⟨w.heap.size,0,none⟩) hl1).trans p0,(hb9.cell (p:=⟨w.heap.size,1,none⟩) hl1).trans p1⟩)
   | (exact⟨((btt hb9 hb10).cell (p:=⟨w.heap.size,0,none⟩) hl1).trans p0,((btt hb9 hb10).cell (p:=⟨w.heap.size,1,none⟩) hl1).trans p1⟩))
  (first
   | (go_at_call 54;refine HR.out.mono ?_;rintro e w9 ⟨r9,rfl,hO9,hb9⟩;replace hb9:Below W1.heap.size W1 w9:=(Below.refl _ W1).drew.trans hb9)
   | (go_at_call 104;refine(HE.out _ hb9 _ hO9).mono ?_;rintro e w10 ⟨l,rr,rfl,hrr,hb10⟩))
 have hrR:=hRk.out rr hrr;subst hrR;have hfin:=bt hb1 (btt hb9 hb10) hb1.size;go_wp2;go_ret;exact⟨rfl,hfin⟩
theorem refMoved11 {w:World}{u v:Value}{a b:List Int}(h:Ints w u a) (h':Ints w v b) (hG:Good a.length a) (hab:a.length=b.length) (hn:b.length≤1000000) :
  Calls Tryz.prog 117 #[v,u] w fun e w'=>∃r,e = .returned r∧OI w' w.heap.size r b.length (movedL a b)∧Below w.heap.size w w':=by
 obtain⟨aa,ac,ab,ao,rfl,ha,hca,hla⟩:=h;obtain⟨ba,bc,bb,bo,rfl,hb',hcb,hlb⟩:=h';have hrep:Hid (List.replicate a.length (0:Int)=List.replicate b.length 0):=by show _=_;rw[hab]
 replace hab:=qH hab;go_enter Tryz.func117, Tryz.ntmps117
 go_wp2_with (at_make;refine wpMakeI rfl _ _ rfl b.length rfl rfl (by omega) (Nat.le_refl _) ?_;intro w1 ho _ hb)
 obtain⟨g,hg⟩:=exF (w.heap.size);rw[←hg] at ho⊢;have hgl:w.heap.size≤g:=by omega
 replace hg:=qH hg;go_loopw [6] (fun i wr=>∃k:Nat,k≤b.length∧i = .int .i64 (k:Int)∧OI wr g (.slice (some ⟨g,0,none⟩) b.length b.length) b.length (scat a b (List.replicate b.length 0) k)∧Below w.heap.size w wr) (fun i _=>b.length - (intOf i).toNat)
 case atStart=>exact⟨0,by omega,rfl,ho,hb⟩
 case round=>
  clear ho hb;obtain⟨k,hk,rfl,ho,hb⟩:=hrel;by_cases hlt:k < b.length
  ·have hlt':k < a.length:=(by have:=hab.out;omega);have hkI:(k:Int) < (a.length:Int):=(by omega);have hkJ:(k:Int) < (b.length:Int):=(by omega);obtain⟨g1,g2⟩:=hG k hlt';have g3:a.getD k 0 < (b.length:Int):=(by have:=hab.out;omega);obtain rfl:=ha (by omega);obtain rfl:=hb' (by omega);have hck:=hca.keep hb k hlt';have hck':=hcb.keep hb k hlt;have e1:=qH (scat_succ a b (List.replicate b.length 0) k);obtain⟨q,hq⟩:=exE (a.getD k 0);obtain⟨y,hy⟩:=exE (b.getD k 0);rw[hq] at hck g1 g2 g3 e1;rw[hy] at hck' e1;clear hq hy ha hca hb' hcb hG g2;have hcq:=ho.cell (j:=q.toNat) (by omega);have hfq:=ho.free q.toNat;have hst:=ho.store q.toNat y;go_wp2;go_still_tail 10,(by kernel_rfl)
   go_wp2;go_roundw
   case rel=>exact⟨k+1,by omega,by go_num,by rw[e1.out];exact hst.1,(hb.setCell (p:=⟨g,q.toNat,none⟩) (by simpa using hgl) _).drew⟩
   case measure=>simp[intOf];omega
  ·obtain rfl:k=b.length:=(by omega);clear ha hca hb' hcb hG;have hm:Hid (scat a b (List.replicate b.length 0) b.length=movedL a b):=(by show _=_;rw[movedL,hrep.out,hab.out]);rw[hm.out] at ho;go_wp2;go_ret;exact⟨_,rfl,ho.base hgl,hb⟩
theorem wpAppManyG {w:World}{ops:Array Oper}{rest:List Oper}{o:Oper}{a:Act}{Q:Exit→Act→World→Prop}(hgd:o.guard=none) (s y:Operand)
  (ho:o.op = .call { callee:=.builtin .append,args:=#[s,y],argTypes:=#[39,39] })
  {B:Nat} {v v2:Value} {n:Nat} {xss yss:List (List Int)} {us:List Value} (hs:a.eval s=v) (hown:OII w B v n xss) (hx:a.eval y=v2) (hsrc:SrcOf w v2 us) (hul:us.length=yss.length)
  (g4:∀x∈us,x.oneCell'=true) (g3:∀j,j < yss.length→OI w 0 (us.getD j undef) (yss.getD j []).length (yss.getD j [])) (hn:n+yss.length≤1000000000000) (hB:B≤w.heap.size)
  (h:∀v' w',OII w' B v' (n+yss.length) (xss++yss)→Below B w w'→(∀B' u' n' x',OI w B' u' n' x'→OI w' B' u' n' x')→wpList Tryz.prog ops Q rest (a.put o.dst v') w') :
  wpList Tryz.prog ops Q (o::rest) a w:=by
 obtain⟨vs,h1,h2,h4,h3⟩:=hown;have hvl:vs.length=n:=by have:=h1.1;omega
 refine wpAppMany elemSl (by decide) hgd s y ho hs h1 hx hsrc (by omega) hB fun v' w' k1 k2 k3=>?_;have ki:∀B' u' n' x',OI w B' u' n' x'→OI w' B' u' n' x':=fun B' u' n' x' hh=>hh.otherO h1 k2;rw[hul] at k1;refine h v' w' ⟨vs++us,k1,by simp[h2],?_,fun j hj=>?_⟩ k3 ki
 ·intro y hy;rcases List.mem_append.1 hy with hy|hy
  ·exact h4 y hy
  ·exact g4 y hy
 ·by_cases hjn:j < n
  ·rw[getD_append_left' (by omega),getD_append_left' (by omega)];exact ki _ _ _ _ (h3 j hjn)
  ·rw[getD_append_right' (by omega),getD_append_right' (by omega),hvl,h2];exact ki _ _ _ _ (g3 (j - n) (by omega))
theorem OII.parts {w:World}{B n:Nat}{a:Option Addr}{c:Nat}{xss:List (List Int)}(h:OII w B (.slice a n c) n xss) (K:Nat) (hK:K≤n) :
  (∃us,SrcOf w (.slice a K c) us∧us.length=(xss.take K).length∧(∀x∈us,x.oneCell'=true)∧∀j,j < (xss.take K).length→OI w 0 (us.getD j undef) ((xss.take K).getD j []).length ((xss.take K).getD j []))∧
  (∃us,SrcOf w (.slice (if c=K then a else a.map fun p=>p.add K) (n - K) (c - K)) us∧us.length=(xss.drop K).length∧(∀x∈us,x.oneCell'=true)∧∀j,j < (xss.drop K).length→OI w 0 (us.getD j undef) ((xss.drop K).getD j []).length ((xss.drop K).getD j []))∧n≤c:=by
 obtain⟨vs,h1,h2,h4,h3⟩:=h;have hvl:vs.length=n:=by have:=h1.1;omega
 have htk:∀j,j < K→(vs.take K).getD j undef=vs.getD j undef∧(xss.take K).getD j []=xss.getD j []:=fun j hj=>by
  simp only[List.getD_eq_getElem?_getD,List.getElem?_take,if_pos hj,and_self]
 have hdr:∀j,(vs.drop K).getD j undef=vs.getD (K+j) undef∧(xss.drop K).getD j []=xss.getD (K+j) []:=fun j=>by
  simp only[List.getD_eq_getElem?_getD,List.getElem?_drop,and_self]
 have o1:∀j,j < (xss.take K).length→OI w 0 ((vs.take K).getD j undef) ((xss.take K).getD j []).length ((xss.take K).getD j []):=fun j hj=>by
  rw[List.length_take] at hj;rw[(htk j (by omega)).1,(htk j (by omega)).2];exact h3 j (by omega)
 have o2:∀j,j < (xss.drop K).length→OI w 0 ((vs.drop K).getD j undef) ((xss.drop K).getD j []).length ((xss.drop K).getD j []):=fun j hj=>by
  rw[List.length_drop] at hj;rw[(hdr j).1,(hdr j).2];exact h3 (K+j) (by omega)
 rcases h1.2 with⟨he,h0⟩|⟨g,cap,cur,he,hb,hg,hc,hr⟩
 ·injection he with e1 e2 e3;subst e1 e3;have hn0:n=0:=h0;subst hn0;obtain rfl:K=0:=by omega
  obtain rfl:=List.length_eq_zero_iff.1 hvl;refine⟨⟨[],.inl ⟨rfl,rfl⟩,by simp,by simp,o1⟩,⟨[],.inl ⟨by simp,rfl⟩,by simp[h2],by simp,o2⟩,Nat.le_refl _⟩
 ·injection he with e1 e2 e3;subst e1 e3
  have hcell:∀j x,vs[j]? = some x→w.cell? ⟨g,j,none⟩=some x:=fun j x hx=>by
   have:=h1.cells (g:=g) (by rfl) j x hx
   rwa [Addr.add_lit,Nat.zero_add] at this
  refine⟨⟨vs.take K,.inr ⟨⟨g,0,none⟩,c,by rw[List.length_take,Nat.min_eq_left (by omega)],fun j x hx=>?_,fun x hx=>h4 x (List.mem_of_mem_take hx)⟩,by rw[List.length_take,List.length_take];omega,fun x hx=>h4 x (List.mem_of_mem_take hx),o1⟩,
   ⟨vs.drop K,?_,by rw[List.length_drop,List.length_drop];omega,fun x hx=>h4 x (List.mem_of_mem_drop hx),o2⟩,hc⟩
  ·rw[List.getElem?_take] at hx;split at hx
   ·rw[Addr.add_lit,Nat.zero_add];exact hcell j x hx
   ·cases hx
  ·by_cases hcK:c=K
   ·rw[if_pos hcK];have hnK:n - K=0:=(by omega);refine .inr ⟨⟨g,0,none⟩,c - K,by rw[List.length_drop,hvl],fun j x hx=>?_,fun x hx=>h4 x (List.mem_of_mem_drop hx)⟩;rw[List.getElem?_drop,List.getElem?_eq_none (by omega)] at hx;cases hx
   ·rw[if_neg hcK];refine .inr ⟨⟨g,K,none⟩,c - K,by rw[List.length_drop,hvl];show Value.slice (some (Addr.add _ _)) _ _=_;rw[Addr.add_lit,Nat.zero_add],fun j x hx=>?_,fun x hx=>h4 x (List.mem_of_mem_drop hx)⟩;rw[List.getElem?_drop] at hx;rw[Addr.add_lit];exact hcell _ x hx
theorem refInsert11 {w:World}{v u:Value}{B:Nat}{xs:List (List Int)}{x:List Int}(hO:OII w B v xs.length xs) (hx:OI w 0 u x.length x) (hl:xs.length≤100000) (hxl:x.length≤1000) (hxs:∀y∈xs,y.length≤1000) :
  Calls Tryz.prog 168 #[v,u] w fun e w'=>∃r,e = .returned r∧OII w' w.heap.size r (xs.length+1) (insB cmpL [] x xs)∧Below w.heap.size w w':=by
 have hmx : Tryz.prog.follows .mixedOrders=true:=by kernel_rfl
 obtain⟨va,vc,hv⟩:=hO.shape;subst hv;obtain⟨ua,uc,huv⟩:=hx.shape;subst huv;obtain⟨K,hK⟩:=exE (bkK cmpL [] x xs xs.length);have hKl:K≤xs.length:=by rw[←hK];exact bkK_le xs xs.length
 have hK0:Hid (bkK cmpL [] x xs xs.length=K):=hK;have hins:Hid (insB cmpL [] x xs=xs.take K++x::xs.drop K):=by show _=_;rw[insB,hK]
 have hOh:=qH hO;have hxh:=qH hx;clear hK hx;go_enter Tryz.func168, Tryz.ntmps168
 go_wp2_with fail
 go_loopg [5] xs.length (fun f kv wx=>∃k:Nat,kv = .int .i64 (k:Int)∧k≤f∧k≤xs.length∧Hid (bkK cmpL [] x xs k=K)∧Hid (Below w.heap.size w wx))
 case atStart=>exact⟨xs.length,rfl,Nat.le_refl _,Nat.le_refl _,hK0,Below.refl _ _⟩
 case round=>
  clear hK0;obtain⟨k,rfl,hkf,hk,hKk,hbr⟩:=hrel;by_cases hc:0 < k∧cmpL x (xs.getD (k - 1) []) < 0
  ·obtain⟨h0,hcz⟩:=hc;obtain⟨g,cap,hve⟩:=hO.form2 (by omega);obtain⟨rfl,rfl⟩:va=some ⟨g,0,none⟩∧vc=cap:=(by injection hve with h1 h2 h3;exact⟨h1,h3⟩);obtain⟨y,hcy,hy⟩:=(hOh.out.keep hbr.out).get (show k - 1 < xs.length by omega);obtain⟨z,hz⟩:=exE (xs.getD (k - 1) []);have hzm:z∈xs:=by rw[←hz];exact getD_mem (by omega)
   have hK2:Hid (bkK cmpL [] x xs (k - 1)=K):=by
    have h:=hKk.out;rw[show k=(k - 1)+1 by omega,bkK,if_pos hcz] at h;exact h
   rw[hz] at hy hcz;have HC:=refOrderC ((hxh.out.keep hbr.out).ints (by omega)) (hy.ints (by have:=hxs z hzm;omega));obtain⟨Z,hZ⟩:=exE (cmpL x z);rw[hZ] at HC hcz;replace HC:=qH HC;obtain⟨ya,yc,hyv⟩:=hy.shape;subst hyv;have hw1:IntKind.i64.wrap ((k:Int) - 1)=(k:Int) - 1:=IntWalk.i64_in _ (by omega);have hi0:0≤(k:Int) - 1:=(by omega);have hi1:(k:Int) - 1 < (xs.length:Int):=(by omega);have hin2:((k:Int) - 1).toNat=k - 1:=(by omega);have hd:decide ((0:Int) < (k:Int))=true:=decide_eq_true (by omega);have h1k:(1:Int)≤(k:Int):=(by omega);clear hz hzm hy hZ hve;go_wp2_with fail
   refine HC.out.mono ?_;rintro e w4 ⟨rfl,hq4⟩;have hbf:Hid (Below w.heap.size w w4):=btt hbr.out hq4.below;clear hw1 hin2 hcy;go_wp2_with fail
   go_roundg (gk - 1)
   case measure=>omega
   case rel=>exact⟨k - 1,by rw[show((k - 1:Nat):Int)=(k:Int) - 1 by omega],by omega,by omega,hK2,hbf⟩
  ·obtain rfl:K=k:=by
    have h:=hKk.out;rcases Nat.eq_zero_or_pos k with h0|h0
    ·subst h0;exact h.symm
    ·rw[show k=(k - 1)+1 by omega,bkK,if_neg (fun h=>hc ⟨h0,h⟩)] at h;omega
   have hRl:(xs.take K).length=K:=(by rw[List.length_take];omega);have hDl:(xs.drop K).length=xs.length - K:=List.length_drop;replace hRl:=qH hRl;replace hDl:=qH hDl;have hcap:=(hOh.out.parts 0 (by omega)).2.2;have hKc:(K:Int)≤(vc:Int):=(by omega);have hKx:(K:Int)≤(xs.length:Int):=(by omega);by_cases h0:0 < K
   case' pos=>
    obtain⟨g,cap,hve⟩:=hO.form2 (by omega);obtain⟨rfl,rfl⟩:va=some ⟨g,0,none⟩∧vc=cap:=(by injection hve with h1 h2 h3;exact⟨h1,h3⟩);obtain⟨y,hcy,hy⟩:=(hOh.out.keep hbr.out).get (show K - 1 < xs.length by omega);obtain⟨z,hz⟩:=exE (xs.getD (K - 1) []);have hzm:z∈xs:=by rw[←hz];exact getD_mem (by omega)
    have hcz:0≤cmpL x z:=by
     rw[←hz];rcases Int.lt_or_le (cmpL x (xs.getD (K - 1) [])) 0 with h|h
     ·exact absurd ⟨h0,h⟩ hc
     ·exact h
    rw[hz] at hy;have HC:=refOrderC ((hxh.out.keep hbr.out).ints (by omega)) (hy.ints (by have:=hxs z hzm;omega));obtain⟨Z,hZ⟩:=exE (cmpL x z);rw[hZ] at HC hcz;replace HC:=qH HC;obtain⟨ya,yc,hyv⟩:=hy.shape;subst hyv;have hw1:IntKind.i64.wrap ((K:Int) - 1)=(K:Int) - 1:=IntWalk.i64_in _ (by omega);have hi0:0≤(K:Int) - 1:=(by omega);have hi1:(K:Int) - 1 < (xs.length:Int):=(by omega);have hin2:((K:Int) - 1).toNat=K - 1:=(by omega);have hd:decide ((0:Int) < (K:Int))=true:=decide_eq_true (by omega);have hd2:decide (Z < 0)=false:=decide_eq_false (by omega);have h1k:(1:Int)≤(K:Int):=(by omega);clear hz hzm hy hZ hve hc;go_wp2_with fail
    refine HC.out.mono ?_;rintro e w4 ⟨rfl,hq4⟩;have hb4:=hq4.below;have hbf:Below w.heap.size w w4:=btt hbr.out hb4;clear hw1 hin2 hcy hq4
   case' neg=>
    have hd:decide ((0:Int) < (K:Int))=false:=decide_eq_false (by omega);have hbf:Below w.heap.size w wr:=hbr.out;obtain⟨w4,hw4⟩:=exF (wr);subst hw4;clear hc
   all_goals
    obtain⟨⟨us,s1,s2,s3,s4⟩,-,-⟩:=(hOh.out.keep hbf).parts K hKl;have hB4:w.heap.size≤w4.heap.size:=hbf.size;have hO0:OII w4 w.heap.size (.slice none 0 0) 0 []:=OII.nil _ _;go_wp2_with (at_builtin;refine wpAppManyG (yss:=xs.take K) rfl _ _ rfl rfl hO0 rfl s1 s2 s3 s4 (by rw[hRl.out];omega) hB4 ?_)
    intro v5 w5 ho5 hb5 hm5;have ho5:OII w5 w.heap.size v5 K (xs.take K):=(by simpa only [Nat.zero_add,List.nil_append,hRl.out] using ho5);obtain⟨a5,c5,hv5⟩:=ho5.shape;subst hv5;have hb45:Below w.heap.size w w5:=hbf.trans hb5;have hB5:w.heap.size≤w5.heap.size:=hb45.size;have hx5:=hxh.out.keep hb45;clear s1 s2 s3 s4 hm5;go_wp2_with (at_builtin;refine wpApp1S rfl _ _ rfl rfl ho5 rfl hx5 rfl (by omega) hB5 ?_)
    intro v6 w6 ho6 hb6 _;obtain⟨a6,c6,hv6⟩:=ho6.shape;subst hv6;have hb46:Below w.heap.size w w6:=hb45.trans hb6;have hB6:w.heap.size≤w6.heap.size:=hb46.size;obtain⟨-,⟨us,s1,s2,s3,s4⟩,-⟩:=(hOh.out.keep hb46).parts K hKl;clear ho5 hx5;have hfin1:Hid (xs.take K ++ [x]++xs.drop K=insB cmpL [] x xs):=(by show _=_;rw[hins.out,List.append_assoc];rfl);have hlen:Hid (K+1+(xs.drop K).length=xs.length+1):=(by show _=_;rw[hDl.out];omega);have hDn:K+1+(xs.drop K).length≤1000000000000:=(by rw[hDl.out];omega);rcases Nat.lt_or_ge K vc with hcv|hcv
    case' inl=>
     have hne : ¬vc=K:=(by omega);rw[if_neg hne] at s1;try simp only[Option.map_some,Addr.add_lit,Nat.zero_add] at s1
     have hs1:=qH s1;clear s1;go_wp2_with (at_builtin;refine wpAppManyG (yss:=xs.drop K) rfl _ _ rfl rfl ho6 rfl hs1.out s2 s3 s4 hDn hB6 ?_)
     intro v7 w7 ho7 hb7 _
    case' inr=>
     have hne:K=vc:=(by omega);have hd0:Hid (xs.drop K = []):=List.drop_eq_nil_of_le (by omega);subst hne;have hsl:xs.length - K=0:=(by omega);rw[if_pos rfl,hsl,Nat.sub_self] at s1;have hs1:=qH s1;replace hsl:=qH hsl;clear s1;go_wp2_with (at_builtin;refine wpAppManyG (yss:=xs.drop K) rfl _ _ rfl rfl ho6 rfl hs1.out s2 s3 s4 hDn hB6 ?_)
     intro v7 w7 ho7 hb7 _
    all_goals
     have ho8:OII w7 w.heap.size v7 (xs.length+1) (insB cmpL [] x xs):=by
      first
       | (rw[hlen.out,hfin1.out] at ho7;exact ho7)
       | (rw[hins.out,show xs.length+1=K+1 by omega];exact ho7)
       | (rw[hins.out,show xs.length+1=K+1+(xs.length - K) by omega];exact ho7)
     have hfin:Below w.heap.size w w7:=hb46.trans hb7;replace ho8:=qH ho8;clear ho6 ho7;go_wp2;go_ret;exact⟨_,rfl,ho8.out,hfin⟩
theorem refMovedAll11 {w:World}{v u:Value}{n:Nat}{xs:List (List Int)}{a:List Int}(hx:Intss w v xs) (hu:Ints w u a) (ha:IsP n a) (h5:n≤5) (hl:∀y∈xs,y.length=n) (hn:xs.length≤100000) :
  Calls Tryz.prog 118 #[v,u] w fun e w'=>∃r,e = .returned r∧OII w' w.heap.size r xs.length (mvAll a xs)∧Below w.heap.size w w':=by
 have huh:=qH hu;obtain⟨xa,xc,xb,xo,rfl,hxa,hxc,hxn⟩:=hx;replace hxc:=qH hxc;obtain⟨ua,uc,huv⟩:∃ua uc,u = .slice ua a.length uc:=by obtain⟨ua,uc,_,_,h,_⟩:=hu;exact⟨ua,uc,h⟩
 subst huv;obtain⟨M,hM⟩:=exE (xs.map (movedL a));have hMl:Hid (M.length=xs.length):=by show _=_;rw[←hM,List.length_map]
 have hMi:Hid (∀j,j < xs.length→M.getD j []=movedL a (xs.getD j [])):=fun j hj=>by rw[←hM,getD_eq (by rw[List.length_map];exact hj),List.getElem_map,getD_eq hj]
 have hMs:Hid (∀j,j≤xs.length→(srtB cmpL [] (M.take j)).length=j):=fun j hj=>by rw[srtB_len weakL,List.length_take,hMl.out];omega
 have hMe:Hid (∀y∈M,y.length=n):=fun y hy=>by
  rw[←hM] at hy;obtain⟨z,_,rfl⟩:=List.mem_map.1 hy;rw[movedL_length];exact ha.1
 have hMa:Hid (srtB cmpL [] M=mvAll a xs):=by show _=_;rw[mvAll,hM]
 have hah:=qH ha;have hlh:=qH hl;replace hM:=qH hM;have hr0:OII w w.heap.size (.slice none 0 0) 0 (srtB cmpL [] (M.take 0)):=OII.nil _ _;clear hu ha hl;go_enter Tryz.func118, Tryz.ntmps118
 go_wp2_with fail
 go_loopw [5,6] (fun ov iv wr=>∃i:Nat,iv = .int .i64 (i:Int)∧i≤xs.length∧OII wr w.heap.size ov i (srtB cmpL [] (M.take i))∧Hid (Below w.heap.size w wr)) (fun _ iv _=>xs.length - (intOf iv).toNat)
 case atStart=>exact⟨0,rfl,Nat.zero_le _,hr0,Below.refl _ _⟩
 case round=>
  clear hr0;obtain⟨i,rfl,hi,ho,hb⟩:=hrel;obtain⟨oa,oc,hov⟩:=ho.shape;subst hov;by_cases hlt:i < xs.length
  ·have hltI:(i:Int) < (xs.length:Int):=(by omega);obtain rfl:=hxa (by omega);obtain⟨y,hcy,hy⟩:=hxc.out i hlt;obtain⟨z,hz⟩:=exE (xs.getD i []);have hzm:z∈xs:=(by rw[←hz];exact getD_mem hlt);rw[hz] at hy;have hzl:=hlh.out z hzm;have hMi1:=hMi.out i hlt;rw[hz] at hMi1;have hstep:srtB cmpL [] (M.take (i+1))=insB cmpL [] (movedL a z) (srtB cmpL [] (M.take i)):=(by rw[take_snoc (by rw[hMl.out];exact hlt) [],hMi1,srtB_snoc]);have cy:=cell_kept hb.out hcy;have HM:=refMoved11 (huh.out.keep hb.out) (hy.keep hb.out) (by rw[hah.out.1];exact hah.out.good) (by rw[hah.out.1,hzl]) (by omega);replace HM:=qH HM;obtain⟨Y,hY⟩:=exE (movedL a z);have hYl:Y.length=n:=(by rw[←hY,movedL_length];exact hah.out.1);rw[hY] at HM hstep;rw[hzl,←hYl] at HM;obtain⟨L,hL⟩:=exE (srtB cmpL [] (M.take i));have hLl:L.length=i:=by rw[←hL];exact hMs.out i (by omega)
   have hLe:∀q∈L,q.length≤1000:=fun q hq=>by
    rw[←hL,srtB_mem weakL] at hq;have:=hMe.out q (List.mem_of_mem_take hq)
    omega
   rw[hL] at ho hstep;obtain⟨ya,yc,hyv⟩:∃ya yc,y = .slice ya z.length yc:=(by obtain⟨ua,uc,_,_,h,_⟩:=hy;exact⟨ua,uc,h⟩);subst hyv;replace hstep:=qH hstep;replace hL:=qH hL;replace hLl:=qH hLl;replace hzl:=qH hzl;replace hYl:=qH hYl;clear hz hzm hy hcy hMi1 hY;go_wp2_with fail
   refine HM.out.mono ?_;rintro e w1 ⟨r1,rfl,hr1,hb1⟩;obtain⟨ra,rc,hrv⟩:=hr1.shape;subst hrv;have hLo:OII w1 w.heap.size (.slice oa i oc) L.length L:=(by rw[hLl.out];exact ho.keep hb1);have hYo:OI w1 0 (.slice ra Y.length rc) Y.length Y:=hr1.base (Nat.zero_le _);have hLn:L.length≤100000:=(by rw[hLl.out];omega);have hYn:Y.length≤1000:=(by rw[hYl.out];omega);have hI:=refInsert11 hLo hYo hLn hYn hLe;rw[hLl.out] at hI;replace hI:=qH hI;have hbw:Below w.heap.size w w1:=btt hb.out hb1;clear HM cy ho hr1;go_wp2_with fail
   refine hI.out.mono ?_;rintro e w2 ⟨r2,rfl,hr2,hb2⟩;have hbf:Hid (Below w.heap.size w w2):=btt hbw hb2;have hr3:OII w2 w.heap.size r2 (i+1) (srtB cmpL [] (M.take (i+1))):=(by rw[hstep.out];exact hr2.base hbw.size);clear hI hr2;go_wp2_with fail
   go_roundw
   case rel=>exact⟨i+1,by go_num,by omega,hr3,hbf⟩
   case measure=>simp[intOf];omega
  ·obtain rfl:i=xs.length:=(by omega);rw[List.take_of_length_le (by rw[hMl.out];exact Nat.le_refl _),hMa.out] at ho;have hbf:=hb.out;replace ho:=qH ho;go_wp2;go_ret;exact⟨_,rfl,ho.out,hbf⟩
theorem nodupLen21 {α:Type} [DecidableEq α]:∀ {l m:List α},l.Nodup→(∀x∈l,x∈m)→l.length≤m.length
 | [],_,_,_=>Nat.zero_le _
 | x::l,m,hn,hs=>by
  have hx:x∈m:=hs x (by simp)
  have:=nodupLen21 (l:=l) (m:=m.erase x) (List.nodup_cons.1 hn).2 fun y hy=>by
   have hne:y ≠ x:=(by intro e;subst e;exact(List.nodup_cons.1 hn).1 hy);exact(List.mem_erase_of_ne hne).2 (hs y (by simp[hy]))
  rw[List.length_erase_of_mem hx] at this;have:=List.length_pos_of_mem hx
  simp only[List.length_cons];omega
theorem calmLen {n i o:Int}{cs:List Cs}(h:chkT n i o cs=0):∀c∈cs,c.2.2.length≤1024:=fun c hc=>by
 unfold chkT at h;split at h
 ·cases h
 split at h
 ·cases h
 obtain⟨k,hk,rfl⟩:=List.mem_iff_getElem.1 hc;have e:=(firstE_zero _ _).1 h k (Nat.zero_le _) (by omega);unfold caseE at e;split at e
 ·rename_i e1;exact absurd e e1
 split at e
 ·cases e
 rw[getD_eq hk] at e;unfold outsE at e;split at e
 ·cases e
 next e1=>
 split at e
 ·rename_i e2;exact absurd e e2
 have hz:=(firstE_zero _ _).1 e
 have hcal:∀j,j < cs[k].2.2.length→cs[k].2.2.getD j []∈cs[k].2.1∧(0 < j→cmpL (cs[k].2.2.getD (j - 1) []) (cs[k].2.2.getD j []) < 0):=fun j hj=>by
  have:=hz j (Nat.zero_le _) (by omega)
  unfold calmE at this;split at this
  ·cases this
  next e3=>
  split at this
  ·cases this
  next e4=>
  exact⟨Decidable.not_not.1 e3,fun h0=>by by_cases h:cmpL (cs[k].2.2.getD (j - 1) []) (cs[k].2.2.getD j []) < 0;exact h;exact absurd ⟨h0,by omega⟩ e4⟩
 have hA:AscL cs[k].2.2:=asc_adj fun j hj=>by have:=(hcal (j+1) hj).2 (by omega);rwa [Nat.add_sub_cancel] at this
 have hN:cs[k].2.2.Nodup:=List.Pairwise.imp (fun {a b} h e=>by rw[e,cmpL_self] at h;omega) hA;refine Nat.le_trans (nodupLen21 hN fun x hx=>?_) (show cs[k].2.1.length≤1024 by omega);obtain⟨j,hj,rfl⟩:=List.mem_iff_getElem.1 hx;have:=(hcal j hj).1
 rwa [getD_eq hj] at this
theorem permuteT {w:World}{v u:Value}{n:Nat}{ins outs:Int}{cs:List Cs}{a:List Int}(hT:TaskV w v (n:Int) ins outs cs) (hz:chkT (n:Int) ins outs cs=0) (ha:IsP n a) (hu:Ints w u a) :
  Calls Tryz.prog 77 #[v,u] w fun e w'=>∃r,e = .returned (.tuple #[r,.int .i64 0])∧TaskV w' r (n:Int) ins outs (renT a cs)∧Below w.heap.size w w':=
 permuteTask hT hz (fun c hc=>Nat.le_trans (calmLen hz c hc) (by decide)) ha hu
def symT (n:Nat) (cs:List Cs):List (List Int):=(everyL n).filter fun x=>decide (cs=renT x cs)
theorem relSym1 {w:World}{v u:Value}{b n:Nat}{ins outs:Int}{cs:List Cs}{x:List Int}(hT:TaskV w v (n:Int) ins outs cs) (hbx:w.heap[b]? = some (.cells v.cells 64)) (hz:chkT (n:Int) ins outs cs=0) (hx:IsP n x) (hu:Ints w u x) :
  Calls Tryz.prog 120 #[u,.pointer (some ⟨b,0,none⟩)] w fun e w'=>e = .returned (.bool (decide (cs=renT x cs)))∧Below w.heap.size w w':=by
 have HP:=qH (permuteT hT hz hx hu);obtain⟨B,hB⟩:∃B,decide (cs=renT x cs)=B:=⟨_,rfl⟩
 have HS:Hid (∀W r,Below w.heap.size w W→TaskV W r (n:Int) ins outs (renT x cs)→Calls Tryz.prog 121 #[v,r] W fun e w'=>e = .returned (.bool B)∧Below W.heap.size W w'):=fun W r hb hr=>by
  rw[←hB];exact sameTask (hT.keep hb) hr
 rw[hB];obtain⟨sv,rfl,hS⟩:=hT;obtain⟨sa,sc,rfl⟩:=hS.shape;obtain⟨ua,uc,rfl⟩:=hu.shape;have hbx':w.heap[b]? = some (.cells #[.int .i64 (n:Int),.int .i64 ins,.int .i64 outs,.slice sa cs.length sc] 64):=hbx;obtain⟨p0,p1,p2,p3⟩:=boxL4 hbx';have hK:=qH (fun W (hb:Below w.heap.size w W)=>boxL4 ((hb.block _ (Array.getElem?_eq_some_iff.1 hbx').1).trans hbx'));clear hS hu hx hz hB hbx hbx';go_enter Tryz.func120, Tryz.ntmps120
 go_wp2_with fail
 refine HP.out.mono ?_;rintro e w1 ⟨r,rfl,hr,hb1⟩;have hrk:=qH hr;obtain⟨rv,rfl,hR⟩:=hr;obtain⟨ra,rc,rfl⟩:=hR.shape;obtain⟨W2,hW2⟩:=exF (w1.alloc (.cells #[.int .i64 (n:Int),.int .i64 ins,.int .i64 outs,.slice ra (renT x cs).length rc] 64));have hb2:Below w1.heap.size w1 W2:=by rw[hW2];exact(Below.refl _ _).alloc (Nat.le_refl _) _
 have m2:W2.heap[w1.heap.size]? = some (.cells #[.int .i64 (n:Int),.int .i64 ins,.int .i64 outs,.slice ra (renT x cs).length rc] 64):=by rw[hW2];exact heap_alloc_new _ _
 have hb12:=bt hb1 hb2 hb1.size;have HS2:=qH (HS.out W2 _ hb12 (hrk.out.keep hb2));clear p0 p1 p2 p3 HP HS hR;obtain⟨p0,p1,p2,p3⟩:=hK.out W2 hb12;obtain⟨q0,q1,q2,q3⟩:=boxL4 m2;obtain⟨N,hN⟩:=exE ((renT x cs).length);rw[hN] at hW2 q3 HS2;simp only[hN];rw[hW2] at p0 p1 p2 p3 q0 q1 q2 q3;replace hW2:=qH hW2;replace hN:=qH hN;clear hrk m2;go_wp2_with fail
 rw[←hW2.out];refine HS2.out.mono ?_;rintro e w3 ⟨rfl,hb3⟩;have hf:=bt hb12 hb3 hb12.size;clear p0 p1 p2 p3 q0 q1 q2 q3 HS2 hK;go_wp2;go_ret;exact⟨rfl,hf⟩
theorem relSymC {w:World}{v:Value}{n:Nat}{ins outs:Int}{cs:List Cs}(hT:TaskV w v (n:Int) ins outs cs) (hz:chkT (n:Int) ins outs cs=0):Calls Tryz.prog 79 #[v] w (RII w (symT n cs) 0):=by
 have hOK:=TskOK.of hz;have h5:=hOK.n5;have hTk:=qH hT;obtain⟨sv,rfl,hS⟩:=hT;obtain⟨sa,sc,rfl⟩:=hS.shape;obtain⟨W1,hW1⟩:=exF (w.alloc (.cells #[.int .i64 (n:Int),.int .i64 ins,.int .i64 outs,.slice sa cs.length sc] 64));have hb1:Below w.heap.size w W1:=by rw[hW1];exact(Below.refl _ _).alloc (Nat.le_refl _) _
 have m1:W1.heap[w.heap.size]? = some (.cells #[.int .i64 (n:Int),.int .i64 ins,.int .i64 outs,.slice sa cs.length sc] 64):=by rw[hW1];exact heap_alloc_new _ _
 have hK:=qH (fun W (hb:Below W1.heap.size W1 W)=>boxL4 ((hb.block _ (Array.getElem?_eq_some_iff.1 m1).1).trans m1));obtain⟨p0,p1,p2,p3⟩:=boxL4 m1;have HX:=checkT (hTk.out.keep hb1);rw[hz] at HX;replace HX:=qH HX;have hne:numE (n:Int)=0:=by unfold numE;rw[if_neg];have:=hOK.n1;omega
 have hal:allL (n:Int)=everyL n:=by unfold allL;rw[if_pos hne,Int.toNat_natCast]
 have HAll:=fun W=>allCall (n:Int) W;simp only[hne,hal] at HAll;replace HAll:=qH HAll
 have HCh:=qH (fun W (hbW:Below W1.heap.size W1 W) (r:Value) B0 (hO:OII W B0 r (everyL n).length (everyL n))=>keptS (caps:=#[.pointer (some ⟨w.heap.size,0,none⟩)]) (p:=fun x=>decide (cs=renT x cs)) hO (every_len h5) fun W' hbW' x hx u hu=>by
  have hx':=mem_everyL.1 hx;have hbb:=btt hbW hbW';exact relSym1 ((hTk.out.keep hb1).keep hbb) ((hbb.block _ (Array.getElem?_eq_some_iff.1 m1).1).trans m1) hz hx' (hu.ints (by have:=hx'.1;omega)))
 replace h5:=qH h5;have hsy:=qH (show(everyL n).filter (fun x=>decide (cs=renT x cs))=symT n cs from rfl);clear hz hOK hne hal hS;go_enter Tryz.func79, Tryz.ntmps79
 go_wp2_with fail
 rw[←hW1];replace hW1:=qH hW1;refine HX.out.mono ?_;rintro e W2 ⟨rfl,hb2⟩;clear p0 p1 p2 p3;obtain⟨p0,p1,p2,p3⟩:=hK.out W2 hb2;go_wp2_with fail
 refine(HAll.out W2).mono ?_;rintro e W3 ⟨r,rfl,hO,hb3⟩;have hOk:=qH hO;obtain⟨ra,rc,rfl⟩:=hO.shape;have hb13:=btt hb2 hb3;have HC3:=qH (HCh.out W3 hb13 _ _ hOk.out);clear p0 p1 p2 p3 hK HX HAll HCh hO;go_wp2_with fail
 refine HC3.out.mono ?_;rintro e W4 ⟨r2,rfl,hO2,hb4⟩;rw[hsy.out] at hO2;obtain⟨ra2,rc2,rfl⟩:=hO2.shape;have hfin:=bt hb1 (btt hb13 hb4) hb1.size;have hO3:=qH (hO2.base (B':=w.heap.size) (bt hb1 hb13 hb1.size).size);clear hO2 HC3;go_wp2;go_ret2
 exact⟨_,rfl,hO3.out,hfin⟩
def PrV (w:World) (v:Value) (n:Nat) (ins outs:Int) (cs:List Cs) (ss:List (List (List Int))) (r:Int):Prop:=
 ∃sv av,v = .agg #[.int .i64 (n:Int),.int .i64 ins,.int .i64 outs,sv,.int .i64 (n:Int),av,.int .i64 r]∧TaskV w (.agg #[.int .i64 (n:Int),.int .i64 ins,.int .i64 outs,sv]) (n:Int) ins outs cs∧AdvC w (.agg #[.int .i64 (n:Int),av]) (n:Int) ss
theorem PrV.keep {w w':World}{v:Value}{n:Nat}{ins outs:Int}{cs:List Cs}{ss:List (List (List Int))}{r:Int}(h:PrV w v n ins outs cs ss r) (hb:Below w.heap.size w w'):PrV w' v n ins outs cs ss r:=by
 obtain⟨sv,av,h1,h2,h3⟩:=h;exact⟨sv,av,h1,h2.keep hb,h3.keep hb⟩
structure PrOK (n:Nat) (ins outs:Int) (cs:List Cs) (ss:List (List (List Int))) (r:Int):Prop where
 tz:chkT (n:Int) ins outs cs=0
 az:chkA (n:Int) ss=0
 r0:0≤r
 r6:r≤6
 few:FewS ss
def prBox (n:Nat) (ins outs:Int) (sv av:Value) (r:Int):Obj:=.cells #[.int .i64 (n:Int),.int .i64 ins,.int .i64 outs,sv,.int .i64 (n:Int),av,.int .i64 r] 66
theorem PrV.shape {w:World}{v:Value}{n:Nat}{ins outs:Int}{cs:List Cs}{ss:List (List (List Int))}{r:Int}(h:PrV w v n ins outs cs ss r):∃sa sc aa ac,v = .agg #[.int .i64 (n:Int),.int .i64 ins,.int .i64 outs,.slice sa cs.length sc,.int .i64 (n:Int),.slice aa ss.length ac,.int .i64 r]∧
  TaskV w (.agg #[.int .i64 (n:Int),.int .i64 ins,.int .i64 outs,.slice sa cs.length sc]) (n:Int) ins outs cs∧AdvC w (.agg #[.int .i64 (n:Int),.slice aa ss.length ac]) (n:Int) ss:=by
 obtain⟨sv,av,rfl,hT,hA⟩:=h;have hT':=hT;obtain⟨_,he,hS⟩:=hT';injection he with he;simp only[Array.mk.injEq,List.cons.injEq,and_true,true_and] at he;subst he;obtain⟨sa,sc,rfl⟩:=hS.shape;obtain⟨aa,ac,he⟩:=advShape' hA.adv;injection he with he;simp only[Array.mk.injEq,List.cons.injEq,and_true,true_and] at he;subst he;exact⟨_,_,_,_,rfl,hT,hA⟩
theorem problemC {w:World}{v:Value}{n:Nat}{ins outs:Int}{cs:List Cs}{ss:List (List (List Int))}{r:Int}(h:PrV w v n ins outs cs ss r) (hO:PrOK n ins outs cs ss r) :
  Calls Tryz.prog 76 #[v] w fun e w'=>e = .returned (.int .i64 0)∧Below w.heap.size w w':=by
 obtain⟨sa,sc,aa,ac,rfl,hT,hA⟩:=h.shape;obtain⟨W1,hW1⟩:=exF (w.alloc (.cells #[.int .i64 (n:Int),.int .i64 ins,.int .i64 outs,.slice sa cs.length sc,.int .i64 (n:Int),.slice aa ss.length ac,.int .i64 r] 66));have hb1:Below w.heap.size w W1:=by rw[hW1];exact(Below.refl _ _).alloc (Nat.le_refl _) _
 have m1:W1.heap[w.heap.size]? = some (.cells #[.int .i64 (n:Int),.int .i64 ins,.int .i64 outs,.slice sa cs.length sc,.int .i64 (n:Int),.slice aa ss.length ac,.int .i64 r] 66):=by rw[hW1];exact heap_alloc_new _ _
 have hK:=qH (fun W (hb:Below W1.heap.size W1 W)=>boxL7 ((hb.block _ (Array.getElem?_eq_some_iff.1 m1).1).trans m1));obtain⟨p0,p1,p2,p3,p4,p5,p6⟩:=boxL7 m1;have HT:=checkT (hT.keep hb1);rw[hO.tz] at HT;replace HT:=qH HT;have HA:=fun W (hb:Below W1.heap.size W1 W)=>checkA ((hA.keep hb1).keep hb).adv (by have:=hO.few.m;omega);rw[hO.az] at HA;replace HA:=qH HA;have hr0:decide (r < 0)=false:=decide_eq_false (by have:=hO.r0;omega);have hr6:decide (6 < r)=false:=decide_eq_false (by have:=hO.r6;omega);clear h hT hA hO m1;go_enter Tryz.func76, Tryz.ntmps76
 go_wp2_with fail
 rw[←hW1];replace hW1:=qH hW1;refine HT.out.mono ?_;rintro e W2 ⟨rfl,hb2⟩;clear p0 p1 p2 p3 p4 p5 p6;obtain⟨p0,p1,p2,p3,p4,p5,p6⟩:=hK.out W2 hb2;go_wp2_with fail
 refine(HA.out W2 hb2).mono ?_;rintro e W3 ⟨rfl,hb3⟩;have hb13:=btt hb2 hb3;have hf:=bt hb1 hb13 hb1.size;clear p0 p1 p2 p3 p4 p5 p6;obtain⟨p0,p1,p2,p3,p4,p5,p6⟩:=hK.out W3 hb13;clear hK HT HA;go_wp2;go_ret;exact⟨rfl,hf⟩
theorem kpB_box {w:World}{b n:Nat}{ins outs:Int}{sv av:Value}{r:Int}(h:w.heap[b]? = some (prBox n ins outs sv av r)):w.cell? ⟨b,4,none⟩=some (.int .i64 (n:Int))∧w.cell? ⟨b,5,none⟩=some av:=⟨box_cell h rfl,box_cell h rfl⟩
theorem sym1 {w:World}{b n:Nat}{ins outs:Int}{sv:Value}{aa:Option Addr}{ac:Nat}{r:Int}{ss:List (List (List Int))}(hA:AdvC w (.agg #[.int .i64 (n:Int),.slice aa ss.length ac]) (n:Int) ss) (hbx:w.heap[b]? = some (prBox n ins outs sv (.slice aa ss.length ac) r)) (hF:FewS ss) (hW:WfN n ss) {x:List Int}(hx:IsP n x) {u:Value}(hu:Ints w u x) :
  Calls Tryz.prog 80 #[u,.pointer (some ⟨b,0,none⟩)] w fun e w'=>e = .returned (.tuple #[.bool (kpG ss x),.int .i64 0])∧Below w.heap.size w w':=by
 have HI:=invariantC hA hu hF;rw[invR,if_pos (perE_zero hW hx),perE_zero hW hx] at HI;replace HI:=qH HI;obtain⟨ua,uc,hus⟩:∃ua uc,u = .slice ua x.length uc:=by obtain⟨ua,uc,_,_,h,_⟩:=hu;exact⟨ua,uc,h⟩
 subst hus;obtain⟨p0,p1⟩:=kpB_box hbx;obtain⟨B,hB⟩:=exE (kpG ss x);rw[hB] at HI⊢;clear hA hF hW hx hu hbx hB;go_enter Tryz.func80, Tryz.ntmps80
 go_wp2_with fail
 refine HI.out.mono ?_;rintro e w1 ⟨rfl,hb1⟩;go_wp2;go_ret2
 exact⟨rfl,hb1⟩
noncomputable def symP (n:Nat) (cs:List Cs) (ss:List (List (List Int))):List (List Int):=(symT n cs).filter (kpG ss)
theorem symmetriesC {w:World}{v:Value}{n:Nat}{ins outs:Int}{cs:List Cs}{ss:List (List (List Int))}{r:Int}(h:PrV w v n ins outs cs ss r) (hO:PrOK n ins outs cs ss r) :
  Calls Tryz.prog 38 #[v] w (RII w (symP n cs ss) 0):=by
 have hOK:=TskOK.of hO.tz;have hk:=qH h;obtain⟨sa,sc,aa,ac,rfl,hT,hA⟩:=h.shape;obtain⟨n',hn',hW⟩:=wfN_of hA.adv hO.az;obtain rfl:n'=n:=by omega
 obtain⟨W1,hW1⟩:=exF (w.alloc (.cells #[.int .i64 (n':Int),.int .i64 ins,.int .i64 outs,.slice sa cs.length sc,.int .i64 (n':Int),.slice aa ss.length ac,.int .i64 r] 66));have hb1:Below w.heap.size w W1:=by rw[hW1];exact(Below.refl _ _).alloc (Nat.le_refl _) _
 have m1:W1.heap[w.heap.size]? = some (.cells #[.int .i64 (n':Int),.int .i64 ins,.int .i64 outs,.slice sa cs.length sc,.int .i64 (n':Int),.slice aa ss.length ac,.int .i64 r] 66):=by rw[hW1];exact heap_alloc_new _ _
 have hK:=qH (fun W (hb:Below W1.heap.size W1 W)=>boxL7 ((hb.block _ (Array.getElem?_eq_some_iff.1 m1).1).trans m1));obtain⟨p0,p1,p2,p3,p4,p5,p6⟩:=boxL7 m1;have HP:=qH (problemC (hk.out.keep hb1) hO);have HT:=qH (fun W (hb:Below W1.heap.size W1 W)=>relSymC ((hT.keep hb1).keep hb) hO.tz);have hsl:(symT n' cs).length≤1000:=Nat.le_trans (List.length_filter_le _ _) (every_len hOK.n5);have hsm:∀x∈symT n' cs,IsP n' x:=fun x hx=>mem_everyL.1 (List.mem_filter.1 hx).1
 have HCh:=qH (fun W (hbW:Below W1.heap.size W1 W) (q:Value) B0 (hQ:OII W B0 q (symT n' cs).length (symT n' cs))=>chosenS (caps:=#[.pointer (some ⟨w.heap.size,0,none⟩)]) (p:=kpG ss) hQ hsl fun W' hbW' x hx u hu=>by
  have hx':=hsm x hx;have hbb:=btt hbW hbW';exact sym1 ((hA.keep hb1).keep hbb) ((hbb.block _ (Array.getElem?_eq_some_iff.1 m1).1).trans m1) hO.few hW hx' (hu.ints (by have:=hx'.1;have:=hOK.n5;omega)))
 obtain⟨L,hL⟩:=exE (symT n' cs);have hsy:=qH (show L.filter (kpG ss)=symP n' cs ss by rw[←hL];rfl);rw[hL] at HT HCh;clear h hT hA hO hOK hn' hW hsl hsm hL m1;go_enter Tryz.func38, Tryz.ntmps38
 go_wp2_with fail
 rw[←hW1];replace hW1:=qH hW1;refine HP.out.mono ?_;rintro e W2 ⟨rfl,hb2⟩;clear p0 p1 p2 p3 p4 p5 p6;obtain⟨p0,p1,p2,p3,p4,p5,p6⟩:=hK.out W2 hb2;go_wp2_with fail
 refine(HT.out W2 hb2).mono ?_;rintro e W3 ⟨q,rfl,hQ,hb3⟩;have hQk:=qH hQ;obtain⟨ra,rc,rfl⟩:=hQ.shape;have hb13:=btt hb2 hb3;have HC3:=qH (HCh.out W3 hb13 _ _ hQk.out);clear p0 p1 p2 p3 p4 p5 p6 hK HP HT HCh hQ;go_wp2_with fail
 refine HC3.out.mono ?_;rintro e W4 ⟨r2,rfl,hO2,hb4⟩;rw[hsy.out] at hO2;obtain⟨ra2,rc2,rfl⟩:=hO2.shape;have hfin:=bt hb1 (btt hb13 hb4) hb1.size;have hO3:=qH (hO2.base (B':=w.heap.size) (bt hb1 hb13 hb1.size).size);clear hO2 HC3;go_wp2;go_ret2
 exact⟨_,rfl,hO3.out,hfin⟩
theorem refSameV {w:World}{u v:Value}{xs ys:List (List Int)}(hx:Intss w u xs) (hy:Intss w v ys) :
  Calls Tryz.prog 84 #[u,v] w fun e w'=>e = .returned (.bool (decide (xs=ys)))∧Below w.heap.size w w':=by
 have hmx : Tryz.prog.follows .mixedOrders=true:=by kernel_rfl
 obtain⟨xa,xc,xb,xo,rfl,hxa,hxc,hxn⟩:=hx;obtain⟨ya,yc,yb,yo,rfl,hya,hyc,_⟩:=hy;obtain⟨B,hB⟩:∃B,decide (xs=ys)=B:=⟨_,rfl⟩;rw[hB];replace hxc:=qH hxc;replace hyc:=qH hyc;by_cases hlen:xs.length=ys.length
 ·rw[←hlen];replace hB:=qH hB;replace hlen:=qH hlen;have h0:Hid (xs.take 0=ys.take 0):=rfl;go_enter Tryz.func84, Tryz.ntmps84
  go_wp2_with fail
  go_loopw [5] (fun iv wr=>∃i:Nat,iv = .int .i64 (i:Int)∧i≤xs.length∧Hid (xs.take i=ys.take i)∧Hid (Below w.heap.size w wr)) (fun iv _=>xs.length - (intOf iv).toNat)
  case atStart=>exact⟨0,rfl,by omega,h0,Below.refl _ w⟩
  case round=>
   clear h0;obtain⟨i,rfl,hi,ht,hb⟩:=hrel;by_cases hlt:i < xs.length
   ·have hltI:(i:Int) < (xs.length:Int):=(by omega);obtain rfl:=hxa (by omega);obtain rfl:=hya (by rw[←hlen.out];omega);have hlt':i < ys.length:=(by rw[←hlen.out];exact hlt);obtain⟨u0,k0,i0⟩:=hxc.out i hlt;obtain⟨v0,l0,j0⟩:=hyc.out i hlt';obtain⟨x,hx⟩:=exE (xs.getD i []);obtain⟨y,hy⟩:=exE (ys.getD i []);rw[hx] at i0;rw[hy] at j0;have hS:=qH (fun W (h:Below wr.heap.size wr W)=>And.intro (cell_kept (btt hb.out h) k0) (cell_kept (btt hb.out h) l0));have HO:=fun W (h:Below wr.heap.size wr W)=>refOrderC (i0.keep (btt hb.out h)) (j0.keep (btt hb.out h));obtain⟨Z,hZ⟩:=exE (cmpL x y);simp only[hZ] at HO;replace HO:=qH HO;obtain⟨xu,xv,rfl⟩:=i0.shape;obtain⟨yu,yv,rfl⟩:=j0.shape;clear k0 l0 i0 j0;go_upto_region 6 with fail
    refine wp_region_bw hmx (by kernel_rfl) ?_
    (refine WQ.step fun K hK=>?_;go_simp;first|(refine hK _ ?_;clear hK K)|(apply Exists.intro;refine⟨fun wq hC=>?_,hK _ ?_⟩;(·(with_reducible rfl));clear hK K))
    (refine WQ.step fun K hK=>?_;go_simp;first|(refine hK _ ?_;clear hK K)|(apply Exists.intro;refine⟨fun wq hC=>?_,hK _ ?_⟩;(·(with_reducible rfl));clear hK K))
    (refine WQ.step fun K hK=>?_;go_simp;first|(refine hK _ ?_;clear hK K)|(apply Exists.intro;refine⟨fun wq hC=>?_,hK _ ?_⟩;(·(go_simp;first|done|with_reducible rfl|with_reducible exact⟨rfl,rfl⟩));clear hK K))
    (refine WQ.step fun K hK=>?_;go_simp;first|(refine hK _ ?_;clear hK K)|(apply Exists.intro;refine⟨fun wq hC=>?_,hK _ ?_⟩;(·(obtain⟨z0,z1⟩:=hS.out wq hC;go_simp;first|done|with_reducible rfl|with_reducible exact⟨rfl,rfl⟩));clear hK K))
    (refine WQ.step fun K hK=>?_;go_simp;first|(refine hK _ ?_;clear hK K)|(apply Exists.intro;refine⟨fun wq hC=>?_,hK _ ?_⟩;(·(with_reducible rfl));clear hK K))
    (refine WQ.step fun K hK=>?_;go_simp;first|(refine hK _ ?_;clear hK K)|(apply Exists.intro;refine⟨fun wq hC=>?_,hK _ ?_⟩;(·(with_reducible rfl));clear hK K))
    (refine WQ.step fun K hK=>?_;go_simp;first|(refine hK _ ?_;clear hK K)|(apply Exists.intro;refine⟨fun wq hC=>?_,hK _ ?_⟩;(·(go_simp;first|done|with_reducible rfl|with_reducible exact⟨rfl,rfl⟩));clear hK K))
    (refine WQ.step fun K hK=>?_;go_simp;first|(refine hK _ ?_;clear hK K)|(apply Exists.intro;refine⟨fun wq hC=>?_,hK _ ?_⟩;(·(obtain⟨z0,z1⟩:=hS.out wq hC;go_simp;first|done|with_reducible rfl|with_reducible exact⟨rfl,rfl⟩));clear hK K))
    (refine WQ.step fun K hK=>?_;go_simp;first|(refine hK _ ?_;clear hK K)|(apply Exists.intro;refine⟨fun wq hC=>?_,hK _ ?_⟩;(·(refine(HO.out wq hC).mono ?_;rintro e w' ⟨rfl,hb⟩;exact⟨rfl,bt hC hb.below hC.size⟩));clear hK K))
    (refine WQ.step fun K hK=>?_;go_simp;first|(refine hK _ ?_;clear hK K)|(apply Exists.intro;refine⟨fun wq hC=>?_,hK _ ?_⟩;(·(go_simp;first|done|with_reducible rfl|with_reducible exact⟨rfl,rfl⟩));clear hK K))
    refine WQ.nil ?_;intro w4 hb4;have hbf:Hid (Below w.heap.size w w4):=btt hb.out hb4;clear hS HO;by_cases hz:Z=0
    ·subst hz;have hxy:=cmpL_zero.1 hZ
     have ht2:Hid (xs.take (i+1)=ys.take (i+1)):=by
      show _=_;rw[take_snoc hlt [],take_snoc hlt' [],ht.out,hx,hy,hxy]
     replace hx:=qH hx;replace hy:=qH hy;replace hxy:=qH hxy;clear hZ ht;go_wp2_with fail
     go_roundw
     case rel=>exact⟨i+1,by go_num,by omega,ht2,hbf⟩
     case measure=>simp[intOf];omega
    ·have hzb:(Z != 0)=true:=by simp[hz]
     have hBf:B=false:=by
      rw[←hB.out];refine decide_eq_false fun e=>hz ?_;rw[←hZ,←hx,←hy,e,cmpL_self]
     subst hBf;clear hx hy hZ ht;go_wp2;go_ret;exact⟨rfl,hbf.out⟩
   ·obtain rfl:i=xs.length:=by omega
    have hBt:B=true:=by
     rw[←hB.out];refine decide_eq_true ?_;have:=ht.out
     rwa [List.take_length,hlen.out,List.take_length] at this
    subst hBt;clear ht;go_wp2;go_ret;exact⟨rfl,hb.out⟩
 ·have hBf:B=false:=by
   rw[←hB];exact decide_eq_false fun e=>hlen (by rw[e])
  subst hBf;have hnb:((xs.length:Int) != (ys.length:Int))=true:=by simp;omega
  clear hB hxa hya;go_enter Tryz.func84, Tryz.ntmps84
  go_wp2;go_ret;exact⟨rfl,Below.refl _ w⟩
theorem refSameT {w:World}{u v:Value}{n i o:Int}{xs ys:List Cs}(hx:TaskV w u n i o xs) (hy:TaskV w v n i o ys) :
  Calls Tryz.prog 42 #[u,v] w fun e w'=>e = .returned (.bool (decide (xs=ys)))∧Below w.heap.size w w':=by
 obtain⟨su,rfl,hu⟩:=hx;obtain⟨sv,rfl,hv⟩:=hy;have hxn:xs.length≤1954687338268:=by obtain⟨_,_,_,_,_,_,_,h⟩:=hu;exact h
 obtain⟨ua,uc,hsu⟩:=hu.shape;obtain⟨va,vc,hsv⟩:=hv.shape;subst hsu hsv;obtain⟨W1,hW1⟩:=exF ((w.alloc (.cells #[.int .i64 n,.int .i64 i,.int .i64 o,.slice ua xs.length uc] 64)).alloc (.cells #[.int .i64 n,.int .i64 i,.int .i64 o,.slice va ys.length vc] 64));have hb1:Below w.heap.size w W1:=by rw[hW1];exact((Below.refl _ w).alloc (Nat.le_refl _) _).alloc (by simp) _
 have m2:W1.heap[w.heap.size]? = some (.cells #[.int .i64 n,.int .i64 i,.int .i64 o,.slice ua xs.length uc] 64):=by rw[hW1];exact(Below.heap_alloc _ _ _ (by simp)).trans (heap_alloc_new _ _)
 have m3:W1.heap[w.heap.size+1]? = some (.cells #[.int .i64 n,.int .i64 i,.int .i64 o,.slice va ys.length vc] 64):=by
  have h:=heap_alloc_new (w.alloc (.cells #[.int .i64 n,.int .i64 i,.int .i64 o,.slice ua xs.length uc] 64)) (.cells #[.int .i64 n,.int .i64 i,.int .i64 o,.slice va ys.length vc] 64);rw[World.size_alloc] at h;rw[hW1];exact h
 have hK:=qH (fun W (hb:Below W1.heap.size W1 W)=>And.intro (keep4 hb (box4' m2)) (keep4 hb (box4' m3)));have hu1:=qH (fun W (hb:Below W1.heap.size W1 W)=>(hu.keep hb1).keep hb);have hv1:=qH (fun W (hb:Below W1.heap.size W1 W)=>(hv.keep hb1).keep hb);obtain⟨⟨p0,p1,p2,p3⟩,q0,q1,q2,q3⟩:=hK.out W1 (Below.refl _ _);have en:(n != n)=false:=by simp
 have ei:(i != i)=false:=by simp
 have eo:(o != o)=false:=by simp
 obtain⟨B,hB⟩:∃B,decide (xs=ys)=B:=⟨_,rfl⟩;rw[hB];clear hu hv m2 m3;by_cases hlen:xs.length=ys.length
 ·rw[←hlen] at q3;have hl0:((xs.length:Int) != (xs.length:Int))=false:=by simp
  replace hB:=qH hB;rw[←hlen] at hW1 hK⊢;replace hlen:=qH hlen;have h0:Hid (xs.take 0=ys.take 0):=rfl;go_enter Tryz.func42, Tryz.ntmps42
  go_wp2_with fail
  rw[←hW1];replace hW1:=qH hW1;go_loopw [5] (fun iv wr=>∃k:Nat,iv = .int .i64 (k:Int)∧k≤xs.length∧Hid (xs.take k=ys.take k)∧Hid (Below W1.heap.size W1 wr)) (fun iv _=>xs.length - (intOf iv).toNat)
  case atStart=>exact⟨0,rfl,Nat.zero_le _,h0,Below.refl _ _⟩
  case round=>
   clear h0 p0 p1 p2 p3 q0 q1 q2 q3;obtain⟨k,rfl,hk,ht,hbr⟩:=hrel;obtain⟨⟨p0,p1,p2,p3⟩,q0,q1,q2,q3⟩:=hK.out wr hbr.out;clear p0 p1 p2 q0 q1 q2;by_cases hlt:k < xs.length
   ·have hltI:(k:Int) < (xs.length:Int):=(by omega);have hlt':k < ys.length:=(by rw[←hlen.out];exact hlt);obtain⟨xb,xo,rfl,hxc⟩:=(hu1.out wr hbr.out).at (by omega);obtain⟨yb,yo,rfl,hyc⟩:=(hv1.out wr hbr.out).at (by omega);obtain⟨u0,u1,u2,c0,c1,c2,i0,i1,i2⟩:=hxc k hlt;obtain⟨v0,v1,v2,d0,d1,d2,j0,j1,j2⟩:=hyc k hlt';obtain⟨x,hx⟩:=exE (xs.getD k csNil);obtain⟨y,hy⟩:=exE (ys.getD k csNil);rw[hx] at i0 i1 i2;rw[hy] at j0 j1 j2;have ht2:Hid (x=y→xs.take (k+1)=ys.take (k+1)):=fun e=>by rw[take_snoc hlt csNil,take_snoc hlt' csNil,ht.out,hx,hy,e]
    have hBn:Hid (x ≠ y→B=false):=fun e=>by
     rw[←hB.out];refine decide_eq_false fun h=>e ?_;rw[←hx,←hy,h]
    have H0:=fun W (h:Below wr.heap.size wr W)=>refOrderC (i0.keep h) (j0.keep h);have H1:=fun W (h:Below wr.heap.size wr W)=>refSameV (i1.keep h) (j1.keep h);have H2:=fun W (h:Below wr.heap.size wr W)=>refSameV (i2.keep h) (j2.keep h);obtain⟨Z,hZ⟩:=exE (cmpL x.1 y.1);obtain⟨P,hP⟩:∃P,decide (x.2.1=y.2.1)=P:=⟨_,rfl⟩;obtain⟨Q,hQ⟩:∃Q,decide (x.2.2=y.2.2)=Q:=⟨_,rfl⟩;simp only[hZ] at H0;simp only[hP] at H1;simp only[hQ] at H2
    have hcs:x=y↔Z=0∧P=true∧Q=true:=by
     rw[←hP,←hQ,←hZ,decide_eq_true_eq,decide_eq_true_eq];constructor
     ·rintro rfl;exact⟨cmpL_self _,rfl,rfl⟩
     ·rintro⟨e1,e2,e3⟩;exact Prod.ext (cmpL_zero.1 e1) (Prod.ext e2 e3)
    replace H0:=qH H0;replace H1:=qH H1;replace H2:=qH H2;obtain⟨xa0,xl0,rfl⟩:=i0.shape;obtain⟨xa1,xl1,rfl⟩:=i1.shape;obtain⟨xa2,xl2,rfl⟩:=i2.shape;obtain⟨ya0,yl0,rfl⟩:=j0.shape;obtain⟨ya1,yl1,rfl⟩:=j1.shape;obtain⟨ya2,yl2,rfl⟩:=j2.shape;replace hcs:=qH hcs;clear hx hy hZ hP hQ i0 i1 i2 j0 j1 j2 hxc hyc ht;go_upto_region 6 with fail
    refine regSame6 p3 q3 hltI hltI c0 c1 c2 d0 d1 d2 ?_;intro y10 y11 _ _ W5 hG5 _ _ _ _;obtain⟨hb5,-,h65,-,h75,-⟩:=hG5;obtain⟨b6,rfl,hb6,k6⟩:=h65 rfl;obtain⟨b7,rfl,hb7,k7⟩:=h75 rfl;have hS:=qH (fun W (h:Below W5.heap.size W5 W)=>And.intro (boxL3 ((h.block _ (Array.getElem?_eq_some_iff.1 k6).1).trans k6)) (boxL3 ((h.block _ (Array.getElem?_eq_some_iff.1 k7).1).trans k7)));obtain⟨⟨r0,r1,r2⟩,s0,s1,s2⟩:=hS.out W5 (Below.refl _ _);have hbW5:=btt hbr.out hb5;clear p3 q3 c0 c1 c2 d0 d1 d2 h65 h75 k6 k7;go_wp2_with fail
    refine(H0.out W5 hb5).mono ?_;rintro e W6 ⟨rfl,hq6⟩;have hb6':=hq6.below;have hbr6:=btt hb5 hb6';have hbW6:=btt hbW5 hb6';clear r0 r1 r2 s0 s1 s2 hq6;obtain⟨⟨r0,r1,r2⟩,s0,s1,s2⟩:=hS.out W6 hb6';by_cases hz:Z=0
    ·subst hz;go_wp2_with fail
     refine(H1.out W6 hbr6).mono ?_;rintro e W7 ⟨rfl,hq7⟩;have hbr7:=btt hbr6 hq7;have hbW7:=btt hbW6 hq7;have hb57:=btt hb6' hq7;clear r0 r1 r2 s0 s1 s2;obtain⟨⟨r0,r1,r2⟩,s0,s1,s2⟩:=hS.out W7 hb57;cases P with
     | true=>
      go_wp2_with fail
      refine(H2.out W7 hbr7).mono ?_;rintro e W8 ⟨rfl,hq8⟩;have hbW8:Hid (Below W1.heap.size W1 W8):=btt hbW7 hq8;clear r0 r1 r2 s0 s1 s2;cases Q with
      | true=>
       have ht3:Hid (xs.take (k+1)=ys.take (k+1)):=ht2.out (hcs.out.2 (by simp));clear hBn;go_wp2_with fail
       go_roundw
       case rel=>exact⟨k+1,by go_num,by omega,ht3,hbW8⟩
       case measure=>simp[intOf];omega
      | false=>
       have hBf:=hBn.out (fun e=>by have:=(hcs.out.1 e).2.2;cases this);subst hBf;have hfin:=bt hb1 hbW8.out hb1.size;go_wp2;go_ret;exact⟨rfl,hfin⟩
     | false=>
      have hBf:=hBn.out (fun e=>by have:=(hcs.out.1 e).2.1;cases this);subst hBf;have hfin:=bt hb1 hbW7 hb1.size;go_wp2;go_ret;exact⟨rfl,hfin⟩
    ·have hzb:(Z != 0)=true:=(by simp[hz]);have hBf:=hBn.out (fun e=>hz (hcs.out.1 e).1);subst hBf;have hfin:=bt hb1 hbW6 hb1.size;go_wp2;go_ret;exact⟨rfl,hfin⟩
   ·obtain rfl:k=xs.length:=by omega
    have hBt:B=true:=by
     rw[←hB.out];refine decide_eq_true ?_;have:=ht.out
     rwa [List.take_length,hlen.out,List.take_length] at this
    subst hBt;have hfin:=bt hb1 hbr.out hb1.size;clear ht;go_wp2;go_ret;exact⟨rfl,hfin⟩
 ·have hBf:B=false:=by
   rw[←hB];exact decide_eq_false fun e=>hlen (by rw[e])
  subst hBf;have hnb:((xs.length:Int) != (ys.length:Int))=true:=by simp;omega
  clear hB hK hu1 hv1;rw[hW1] at p0 p1 p2 p3 q0 q1 q2 q3;go_enter Tryz.func42, Tryz.ntmps42
  go_wp2_with fail
  rw[←hW1];go_ret;exact⟨rfl,hb1⟩
def awS1:List (List (List Int)):=[[[3,2],[3,3]].map mk2]
def awS2:List (List (List Int)):=[[[1,3],[3,2],[3,3]].map mk2]
def awS3:List (List (List Int)):=[[[1,3],[3,3]].map mk2]
theorem awn1:chkA 2 awS1=0:=by decide +kernel
theorem awn2:chkA 2 awS2=0:=by decide +kernel
theorem awn3:renA [1,0] awS1=awS3:=by decide +kernel
theorem aw4:renA [1,0] awS2=awS2:=by decide +kernel
theorem aw5:renA [0,1] awS2=awS2:=by decide +kernel
theorem aw6:renA [0,1] awS1=awS1:=by decide +kernel
theorem aw7:chkT 2 2 2 csC=0:=by decide +kernel
theorem awn8:everyL 2 = [[0,1],[1,0]]:=by decide +kernel
theorem awn9:symT 2 csC = [[0,1],[1,0]]:=by decide +kernel
theorem awF1:FewS awS1:=⟨by decide,by decide +kernel⟩
theorem awF2:FewS awS2:=⟨by decide,by decide +kernel⟩
theorem awW1:WfN 2 awS1:=WfN.of (by decide) awn1
theorem awP:IsP 2 [1,0]:=⟨rfl,by decide,by decide⟩
theorem awK1:kpG awS1 [0,1]=true:=kpG_iff.2 (fun w=>by rw[aw6])
theorem awK2:kpG awS1 [1,0]=false:=by
 rw[Bool.eq_false_iff];intro h;have h:=(kpG_iff.1 h [[2,3,2,0,0,0,0]]).1 ⟨by decide +kernel,trivial⟩;rw[awn3] at h;exact absurd h.1 (by decide +kernel)
theorem awK3:kpG awS2 [0,1]=true:=kpG_iff.2 (fun w=>by rw[aw5])
theorem awK4:kpG awS2 [1,0]=true:=kpG_iff.2 (fun w=>by rw[aw4])
theorem awG1:grpL 2 awS1 = [[0,1]]:=by
 rw[grpL,if_pos awn1,show(2:Int).toNat=2 from rfl,awn8];simp[awK1,awK2]
theorem awG2:grpL 2 awS2 = [[0,1],[1,0]]:=by
 rw[grpL,if_pos awn2,show(2:Int).toNat=2 from rfl,awn8];simp[awK3,awK4]
theorem awY2:symP 2 csC awS2 = [[0,1],[1,0]]:=by
 rw[symP,awn9];simp[awK3,awK4]
theorem awY1:symP 2 csC awS1 = [[0,1]]:=by
 rw[symP,awn9];simp[awK1,awK2]
theorem awO0:chkList 4 [[1,0,2,3]]=0:=by decide +kernel
theorem awO1:obsR 4 [[1,0,2,3]] = [[0,1],[2],[3]]:=by
 have hz:chkList ((4:Nat):Int) [[1,0,2,3]]=0:=awO0;have hG:=(genR_grp hz).1;rw[obsR,if_pos awO0,show(4:Int).toNat=4 from rfl];exact(orb_eq (by decide) (by decide) hG).trans (by decide +kernel)
theorem ks4 {W:World}{b:Nat}{x0 x1 x2 x3:Int}(h:W.heap[b]? = some (.cells #[.int .i64 x0,.int .i64 x1,.int .i64 x2,.int .i64 x3] 93)):KS 2 W (.slice (some ⟨b,0,none⟩) 2 2) [[x0,x1],[x2,x3]]:=by
 obtain⟨p0,p1,p2,p3⟩:=boxL4 h;refine⟨_,_,b,0,rfl,fun _=>rfl,fun j hj=>?_,show 2≤2199023255552 by decide⟩;match j,hj with
 | 0,_=>exact⟨rfl,fun i hi=>by match i,hi with|0,_=>exact p0|1,_=>exact p1⟩
 | 1,_=>exact⟨rfl,fun i hi=>by match i,hi with|0,_=>exact p2|1,_=>exact p3⟩
theorem ks6 {W:World}{b:Nat}{x0 x1 x2 x3 x4 x5:Int}(h:W.heap[b]? = some (.cells #[.int .i64 x0,.int .i64 x1,.int .i64 x2,.int .i64 x3,.int .i64 x4,.int .i64 x5] 93)):KS 2 W (.slice (some ⟨b,0,none⟩) 3 3) [[x0,x1],[x2,x3],[x4,x5]]:=by
 obtain⟨p0,p1,p2,p3,p4,p5⟩:=boxL6 h;refine⟨_,_,b,0,rfl,fun _=>rfl,fun j hj=>?_,show 3≤2199023255552 by decide⟩;match j,hj with
 | 0,_=>exact⟨rfl,fun i hi=>by match i,hi with|0,_=>exact p0|1,_=>exact p1⟩
 | 1,_=>exact⟨rfl,fun i hi=>by match i,hi with|0,_=>exact p2|1,_=>exact p3⟩
 | 2,_=>exact⟨rfl,fun i hi=>by match i,hi with|0,_=>exact p4|1,_=>exact p5⟩
def GrOut (S:List (List (List Int))) (W:World) (e:Ending) (w':World):Prop:=∃a c,e = .returned (.agg #[.int .i64 2,.slice a 1 c])∧OwAdv w' (.agg #[.int .i64 2,.slice a 1 c]) 2 S∧Below W.heap.size W w'
theorem gr4 {S:List (List (List Int))}{x0 x1 x2 x3:Int}(hS : [[[x0,x1],[x2,x3]].map mk2]=S) (W:World) (b:Nat) (h:W.heap[b]? = some (.cells #[.int .i64 x0,.int .i64 x1,.int .i64 x2,.int .i64 x3] 93)) :
  Calls Tryz.prog 49 #[.slice (some ⟨b,0,none⟩) 2 2] W (GrOut S W):=by
 refine(graphsC (ks4 h) (show 2≤1000 by decide)).mono ?_;rintro e w' ⟨r,rfl,hr,hb⟩;rw[hS] at hr;obtain⟨a,c,rfl⟩:=advShape' hr.adv;rw[←hS] at hr;exact⟨a,c,by rw[←hS];rfl,by rw[←hS];exact hr,hb⟩
theorem gr6 {S:List (List (List Int))}{x0 x1 x2 x3 x4 x5:Int}(hS : [[[x0,x1],[x2,x3],[x4,x5]].map mk2]=S) (W:World) (b:Nat) (h:W.heap[b]? = some (.cells #[.int .i64 x0,.int .i64 x1,.int .i64 x2,.int .i64 x3,.int .i64 x4,.int .i64 x5] 93)) :
  Calls Tryz.prog 49 #[.slice (some ⟨b,0,none⟩) 3 3] W (GrOut S W):=by
 refine(graphsC (ks6 h) (show 3≤1000 by decide)).mono ?_;rintro e w' ⟨r,rfl,hr,hb⟩;rw[hS] at hr;obtain⟨a,c,rfl⟩:=advShape' hr.adv;rw[←hS] at hr;exact⟨a,c,by rw[←hS];rfl,by rw[←hS];exact hr,hb⟩
theorem FewS.m' {ss:List (List (List Int))}(h:FewS ss):movesN ss≤1000000000:=by have:=h.m;omega
def PmOut (W:World) (e:Ending) (w':World):Prop:=∃a c,e = .returned (.tuple #[.agg #[.int .i64 2,.slice a 1 c],.int .i64 0])∧OwAdv w' (.agg #[.int .i64 2,.slice a 1 c]) 2 awS3∧Below W.heap.size W w'
theorem permOut {W:World}{v u:Value}(hv:AdvV W v 2 awS1) (hu:Ints W u [1,0]):Calls Tryz.prog 13 #[v,u] W (PmOut W):=by
 refine(permuteGood (n:=2) hv hu awF1.m' awW1 awP).mono ?_;rintro e w' ⟨r,rfl,hr,hb⟩;rw[awn3] at hr;obtain⟨a,c,rfl⟩:=advShape' hr.adv;exact⟨a,c,rfl,hr,hb⟩
theorem ints2 {W:World}{b:Nat}{x y:Int}(h:W.heap[b]? = some (.cells #[.int .i64 x,.int .i64 y] 3)):Ints W (.slice (some ⟨b,0,none⟩) 2 2) [x,y]:=IntB.ints ⟨_,rfl,h⟩
def CnOut (W:World) (e:Ending) (w':World):Prop:=∃a c,e = .returned (.agg #[.int .i64 2,.int .i64 2,.int .i64 2,.slice a 4 c])∧TaskV w' (.agg #[.int .i64 2,.int .i64 2,.int .i64 2,.slice a 4 c]) 2 2 2 csC∧Below W.heap.size W w'
theorem consOut {W:World}:Calls Tryz.prog 50 #[] W (CnOut W):=by
 refine consensusC.mono ?_;rintro e w' ⟨r,rfl,⟨sv,rfl,hS⟩,hb⟩;obtain⟨sa,sc,rfl⟩:=hS.shape;exact⟨sa,sc,rfl,⟨_,rfl,hS⟩,hb⟩
theorem symOut1 {W:World}{sa:Option Addr}{sc:Nat}{a:Option Addr}{c:Nat}(hT:TaskV W (.agg #[.int .i64 2,.int .i64 2,.int .i64 2,.slice sa 4 sc]) 2 2 2 csC) (hA:AdvC W (.agg #[.int .i64 2,.slice a 1 c]) 2 awS1) :
  Calls Tryz.prog 38 #[.agg #[.int .i64 2,.int .i64 2,.int .i64 2,.slice sa 4 sc,.int .i64 2,.slice a 1 c,.int .i64 1]] W (RII W [[0,1]] 0):=by
 have:=symmetriesC (n:=2) (ins:=2) (outs:=2) (cs:=csC) (ss:=awS1) (r:=1) ⟨_,_,rfl,hT,hA⟩ ⟨aw7,awn1,by decide,by decide,awF1⟩
 rwa [awY1] at this
theorem symOut2 {W:World}{sa:Option Addr}{sc:Nat}{a:Option Addr}{c:Nat}(hT:TaskV W (.agg #[.int .i64 2,.int .i64 2,.int .i64 2,.slice sa 4 sc]) 2 2 2 csC) (hA:AdvC W (.agg #[.int .i64 2,.slice a 1 c]) 2 awS2) :
  Calls Tryz.prog 38 #[.agg #[.int .i64 2,.int .i64 2,.int .i64 2,.slice sa 4 sc,.int .i64 2,.slice a 1 c,.int .i64 1]] W (RII W [[0,1],[1,0]] 0):=by
 have:=symmetriesC (n:=2) (ins:=2) (outs:=2) (cs:=csC) (ss:=awS2) (r:=1) ⟨_,_,rfl,hT,hA⟩ ⟨aw7,awn2,by decide,by decide,awF2⟩
 rwa [awY2] at this
theorem intss2 {w:World}{g:Nat}{u v:Value}{x y:List Int}(h:w.heap[g]? = some (.cells #[u,v] 25)) (hx:Ints w u x) (hy:Ints w v y):Intss w (.slice (some ⟨g,0,none⟩) 2 2) [x,y]:=by
 obtain⟨p0,p1⟩:=boxL2 h;refine⟨_,_,g,0,rfl,fun _=>rfl,fun j hj=>?_,show 2≤5864062014805 by decide⟩;match j,hj with
 | 0,_=>exact⟨_,p0,hx⟩
 | 1,_=>exact⟨_,p1,hy⟩
theorem orbIn (w:World):Below w.heap.size w ((w.alloc (.cells #[.int .i64 1,.int .i64 0,.int .i64 2,.int .i64 3] 3)).alloc (.cells #[.slice (some ⟨w.heap.size,0,none⟩) 4 4] 25))∧
  Intss ((w.alloc (.cells #[.int .i64 1,.int .i64 0,.int .i64 2,.int .i64 3] 3)).alloc (.cells #[.slice (some ⟨w.heap.size,0,none⟩) 4 4] 25)) (.slice (some ⟨w.heap.size+1,0,none⟩) 1 1) [[1,0,2,3]]:=by
 obtain⟨W1,hW1⟩:=exF (w.alloc (.cells #[.int .i64 1,.int .i64 0,.int .i64 2,.int .i64 3] 3));have h1:W1.heap[w.heap.size]? = some (.cells #[.int .i64 1,.int .i64 0,.int .i64 2,.int .i64 3] 3):=by rw[hW1];exact heap_alloc_new _ _
 have hs:W1.heap.size=w.heap.size+1:=by rw[hW1,World.size_alloc]
 have hb1:Below w.heap.size w W1:=by rw[hW1];exact(Below.refl _ _).alloc (Nat.le_refl _) _
 rw[←hW1];have hb2:=(Below.refl W1.heap.size W1).alloc (Nat.le_refl _) (.cells #[.slice (some ⟨w.heap.size,0,none⟩) 4 4] 25);refine⟨bt hb1 hb2 hb1.size,?_⟩;rw[←hs];refine intss1 (heap_alloc_new _ _) (Ints.keep ?_ hb2);obtain⟨p0,p1,p2,p3⟩:=boxL4 h1;refine⟨_,_,w.heap.size,0,rfl,fun _=>rfl,fun j hj=>?_,show 4≤17592186044416 by decide⟩;match j,hj with
 | 0,_=>exact p0
 | 1,_=>exact p1
 | 2,_=>exact p2
 | 3,_=>exact p3
theorem orbOut {W:World}{v:Value}(h:Intss W v [[1,0,2,3]]):Calls Tryz.prog 22 #[.int .i64 4,v] W (RII W [[0,1],[2],[3]] 0):=by
 have:=orbitsC 4 h
 rwa [awO1,awO0] at this
theorem awRows {w W:World}(hW:W=((((w.alloc (.cells #[.int .i64 0,.int .i64 1] 3)).alloc (.cells #[.slice (some ⟨w.heap.size,0,none⟩) 2 2] 25)).alloc (.cells #[.int .i64 0,.int .i64 1] 3)).alloc (.cells #[.int .i64 1,.int .i64 0] 3)).alloc
   (.cells #[.slice (some ⟨w.heap.size+1+1,0,none⟩) 2 2,.slice (some ⟨w.heap.size+1+1+1,0,none⟩) 2 2] 25)) :
  Below w.heap.size w W∧Intss W (.slice (some ⟨w.heap.size+1,0,none⟩) 1 1) [[0,1]]∧Intss W (.slice (some ⟨w.heap.size+1+1+1+1,0,none⟩) 2 2) [[0,1],[1,0]]:=by
 obtain⟨W1,h1⟩:=exF (w.alloc (.cells #[.int .i64 0,.int .i64 1] 3));obtain⟨W2,h2⟩:=exF (W1.alloc (.cells #[.slice (some ⟨w.heap.size,0,none⟩) 2 2] 25));obtain⟨W3,h3⟩:=exF (W2.alloc (.cells #[.int .i64 0,.int .i64 1] 3));obtain⟨W4,h4⟩:=exF (W3.alloc (.cells #[.int .i64 1,.int .i64 0] 3));rw[←h1,←h2,←h3,←h4] at hW;have s1:W1.heap.size=w.heap.size+1:=by rw[h1,World.size_alloc]
 have s2:W2.heap.size=w.heap.size+1+1:=by rw[h2,World.size_alloc,s1]
 have s3:W3.heap.size=w.heap.size+1+1+1:=by rw[h3,World.size_alloc,s2]
 have s4:W4.heap.size=w.heap.size+1+1+1+1:=by rw[h4,World.size_alloc,s3]
 have b1:Below w.heap.size w W1:=by rw[h1];exact(Below.refl _ _).alloc (Nat.le_refl _) _
 have b2:Below W1.heap.size W1 W2:=by rw[h2];exact(Below.refl _ _).alloc (Nat.le_refl _) _
 have b3:Below W2.heap.size W2 W3:=by rw[h3];exact(Below.refl _ _).alloc (Nat.le_refl _) _
 have b4:Below W3.heap.size W3 W4:=by rw[h4];exact(Below.refl _ _).alloc (Nat.le_refl _) _
 have b5:Below W4.heap.size W4 W:=by rw[hW];exact(Below.refl _ _).alloc (Nat.le_refl _) _
 have m1:W1.heap[w.heap.size]? = some (.cells #[.int .i64 0,.int .i64 1] 3):=by rw[h1];exact heap_alloc_new _ _
 have m2:W2.heap[W1.heap.size]? = some (.cells #[.slice (some ⟨w.heap.size,0,none⟩) 2 2] 25):=by rw[h2];exact heap_alloc_new _ _
 have m3:W3.heap[W2.heap.size]? = some (.cells #[.int .i64 0,.int .i64 1] 3):=by rw[h3];exact heap_alloc_new _ _
 have m4:W4.heap[W3.heap.size]? = some (.cells #[.int .i64 1,.int .i64 0] 3):=by rw[h4];exact heap_alloc_new _ _
 have m5:W.heap[W4.heap.size]? = some (.cells #[.slice (some ⟨W2.heap.size,0,none⟩) 2 2,.slice (some ⟨W3.heap.size,0,none⟩) 2 2] 25):=by rw[hW,s2,s3];exact heap_alloc_new _ _
 have b45:=btt b4 b5;have b35:=btt b3 b45;have b25:=btt b2 b35;rw[←s4,←s1];exact⟨bt b1 b25 b1.size,(intss1 m2 ((ints2 m1).keep b2)).keep b35,intss2 m5 ((ints2 m3).keep b45) ((ints2 m4).keep b5)⟩
theorem sAll {w:World}{u v:Value}{xs:List (List Int)}(h:Intss w u xs) (h':Intss w v xs):Calls Tryz.prog 20 #[u,v] w fun e w'=>e = .returned (.bool true)∧Qt w w':=by
 have:=refSameAll h h'
 rwa [show sameAllB xs xs=true by simp[sameAllB]] at this
theorem ints1 {W:World}{b:Nat}{x:Int}(h:W.heap[b]? = some (.cells #[.int .i64 x] 3)):Ints W (.slice (some ⟨b,0,none⟩) 1 1) [x]:=by
 refine⟨_,_,b,0,rfl,fun _=>rfl,fun j hj=>?_,show 1≤17592186044416 by decide⟩;match j,hj with
 | 0,_=>exact cell_of_one h
theorem intss3 {w:World}{g:Nat}{u v t:Value}{x y z:List Int}(h:w.heap[g]? = some (.cells #[u,v,t] 25)) (hx:Ints w u x) (hy:Ints w v y) (hz:Ints w t z):Intss w (.slice (some ⟨g,0,none⟩) 3 3) [x,y,z]:=by
 obtain⟨p0,p1,p2⟩:=boxL3 h;refine⟨_,_,g,0,rfl,fun _=>rfl,fun j hj=>?_,show 3≤5864062014805 by decide⟩;match j,hj with
 | 0,_=>exact⟨_,p0,hx⟩
 | 1,_=>exact⟨_,p1,hy⟩
 | 2,_=>exact⟨_,p2,hz⟩
end Go.Proofs.YtmikofeildnpdaaGreat
