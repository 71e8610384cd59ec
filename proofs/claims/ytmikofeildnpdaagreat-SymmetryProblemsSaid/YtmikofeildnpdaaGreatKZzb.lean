/- Texts of this claim, put together: YD. -/
import Derived.Test.YtmikofeildnpdaaGreatKZx

set_option maxRecDepth 100000
set_option maxHeartbeats 12800000
namespace Go.Proofs.YtmikofeildnpdaaGreat
open Go.RowKit
theorem srtB_snoc {α:Type}(cmp:α→α→Int) (d x:α) (l:List α):srtB cmp d (l ++ [x])=insB cmp d x (srtB cmp d l):=by
 unfold srtB;rw[List.foldl_append];rfl
theorem refMoveRd {w:World}{u:Value}{n:Nat}{a:List Int}{y0 y1 y2 y3 y4 y5 y6 y7:Int}(h1:1≤n) (h5:n≤5) (hM:MvN n [y0,y1,y2,y3,y4,y5,y6,y7]) (ha:IsP n a) (hu:Ints w u a) :
  Calls Tryz.prog 102 #[.agg #[.int .i64 y0,.int .i64 y1,.int .i64 y2,.int .i64 y3,.int .i64 y4,.int .i64 y5,.int .i64 y6],u] w fun e w'=>e = .returned (rVal (renR a [y0,y1,y2,y3,y4,y5,y6]))∧Below w.heap.size w w':=by
 obtain⟨hl,hs,f,hR,hrd⟩:=hM;have hrd':mkR n hs f = [y0,y1,y2,y3,y4,y5,y6]:=hrd.symm;have:=refRoundRen h1 h5 hR ha hu
 rw[hrd'] at this;exact this
theorem refRenamedC {w:World}{v u:Value}{n:Nat}{a:List Int}{ss:List (List (List Int))}(hA:AdvV w v n ss) (hW:WfN n ss) (ha:IsP n a) (hu:Ints w u a) :
  Calls Tryz.prog 54 #[v,u] w fun e w'=>∃r,e = .returned r∧OwAdv w' r n (renA a ss)∧Below w.heap.size w w':=by
 have hmx : Tryz.prog.follows .mixedOrders=true:=by kernel_rfl
 obtain⟨sv,rfl,hK⟩:=hA;obtain⟨sa,sc,hsv⟩:=hK.shape;subst hsv;obtain⟨W1,hW1⟩:=exF (((w.alloc (.cells #[.int .i64 (n:Int),.slice sa ss.length sc] 24)).alloc (.cells #[.int .i64 0,.slice none 0 0] 24)).alloc (.cells #[.int .i64 (n:Int),.slice none 0 0] 24));have hb1:Below w.heap.size w W1:=by rw[hW1];exact(((Below.refl _ w).alloc (Nat.le_refl _) _).alloc (by simp) _).alloc (by simp;omega) _
 have hs1:W1.heap.size=w.heap.size+3:=by rw[hW1];simp
 have m0:W1.heap[w.heap.size]? = some (.cells #[.int .i64 (n:Int),.slice sa ss.length sc] 24):=by rw[hW1];exact(Below.heap_alloc _ _ _ (by simp;omega)).trans ((Below.heap_alloc _ _ _ (by simp)).trans (heap_alloc_new _ _))
 have m1:W1.heap[w.heap.size+1]? = some (.cells #[.int .i64 0,.slice none 0 0] 24):=by
  have h:=heap_alloc_new (w.alloc (.cells #[.int .i64 (n:Int),.slice sa ss.length sc] 24)) (.cells #[.int .i64 0,.slice none 0 0] 24);rw[World.size_alloc] at h;rw[hW1];exact(Below.heap_alloc _ _ _ (by simp)).trans h
 have m2:W1.heap[w.heap.size+2]? = some (.cells #[.int .i64 (n:Int),.slice none 0 0] 24):=by
  have h:=heap_alloc_new ((w.alloc (.cells #[.int .i64 (n:Int),.slice sa ss.length sc] 24)).alloc (.cells #[.int .i64 0,.slice none 0 0] 24)) (.cells #[.int .i64 (n:Int),.slice none 0 0] 24);rw[World.size_alloc,World.size_alloc] at h;rw[hW1];exact h
 obtain⟨p0,p1⟩:=boxL2 m0;have HM:=qH (fun W (h:Below w.heap.size w W) y0 y1 y2 y3 y4 y5 y6 y7 (hm:MvN n [y0,y1,y2,y3,y4,y5,y6,y7])=>refMoveRd hW.h1 hW.h5 hm ha (hu.keep h));have hUS:∃ua uc,u = .slice ua a.length uc:=by obtain⟨ua,uc,_,_,h,_⟩:=hu;exact⟨ua,uc,h⟩
 obtain⟨ua,uc,rfl⟩:=hUS;have hKh:=qH hK;have hmv:=qH hW.mv;have hne:=qH hW.ne;have h1:=hW.h1;have h5:=hW.h5;have hl2:=hW.l2;have hml:Hid (∀s∈ss,s.length≤4096):=fun s hs=>Nat.le_trans (mem_movesN hs) hW.l3;have hah:=qH ha;replace hs1:=qH hs1;have hMl:Hid (∀mv,MvN n mv→(renM a mv).length=8):=fun mv hm=>(renM_facts h1 h5 hah.out hm).2.2.1.1;have hMr:Hid (∀mv,MvN n mv→rdOf (renM a mv)=renR a (rdOf mv)∧(renM a mv).getD 7 0=mv.getD 7 0):=fun mv hm=>⟨(renM_facts h1 h5 hah.out hm).1,(renM_facts h1 h5 hah.out hm).2.1⟩;obtain⟨RS,hRS⟩:=exE (renA a ss);have hRSl:Hid (RS.length=ss.length):=by rw[←hRS,renA,List.length_map];exact rfl
 have hRSi:Hid (∀i,i < ss.length→RS.getD i []=renS a (ss.getD i [])):=fun i hi=>by rw[←hRS,renA_getD]
 rw[hRS];replace hRS:=qH hRS;have ho1:OwX 98 1 ESt W1 (w.heap.size+3) (.slice none 0 0) 0 (RS.take 0):=OwX.nil _ _;clear hK hu hW ha;go_enter Tryz.func54, Tryz.ntmps54
 go_wp2_with fail
 rw[←hW1];replace hW1:=qH hW1
 go_loopw [6] (fun iv wr=>∃(i:Nat) (sv:Value),iv = .int .i64 (i:Int)∧i≤ss.length∧Hid (Below w.heap.size w wr)∧wr.heap[w.heap.size]? = some (.cells #[.int .i64 (n:Int),.slice sa ss.length sc] 24)∧wr.heap[w.heap.size+1]? = some (.cells #[.int .i64 0,.slice none 0 0] 24)∧wr.heap[w.heap.size+2]? = some (.cells #[.int .i64 (n:Int),sv] 24)∧
  OwX 98 1 ESt wr (w.heap.size+3) sv i (RS.take i)∧w.heap.size+3≤wr.heap.size) (fun iv _=>ss.length - (intOf iv).toNat)
 case atStart=>exact⟨0,_,rfl,Nat.zero_le _,hb1,m0,m1,m2,ho1,by rw[hs1.out];exact Nat.le_refl _⟩
 case round=>
  clear m0 m1 m2 ho1 p0 p1 hW1 hb1;obtain⟨i,sv,rfl,hi,hb,c0,c1,c2,ho,hsz⟩:=hrel;obtain⟨va,vc,hsv⟩:=ho.shape;subst hsv;by_cases hlt:i < ss.length
  ·have hltI:(i:Int) < (ss.length:Int):=(by omega);obtain⟨aa,ac,ab,ao,hav,hab,hacc,_⟩:=hKh.out.keep hb.out;injection hav with hav1 hav2 hav3;have hab:=hab (by omega);rw[←hav1] at hab;subst hab;obtain⟨um,hcu,hum⟩:=hacc i hlt;obtain⟨ms,hms⟩:=exE (ss.getD i []);have hmem:ms∈ss:=(by rw[←hms];exact getD_mem hlt);rw[hms] at hum;have hmm:=qH (hmv.out ms hmem);have hm0:=hne.out ms hmem;have hm9:=hml.out ms hmem;obtain⟨ma,mc,mb,mo,rfl,hma,hmc,_⟩:=hum;obtain rfl:=hma (by omega);replace hmc:Hid (∀j,j < ms.length→(ms.getD j []).length=8∧CI wr mb (mo+j * 8) (ms.getD j [])):=hmc;obtain⟨wo,hwo⟩:=exF (wr);subst hwo;obtain⟨M,hMM⟩:=exE (ms.map (renM a));have hMMl:Hid (M.length=ms.length):=(by rw[←hMM,List.length_map];exact rfl);have hMi:Hid (∀j,j < ms.length→M.getD j []=renM a (ms.getD j [])):=fun j hj=>by rw[←hMM,getD_eq (by rw[List.length_map];exact hj),List.getElem_map,getD_eq hj]
   have hSl:Hid (∀j,j≤ms.length→(srtB cmpM [] (M.take j)).length=j):=fun j hj=>by rw[srtB_len weakM,List.length_take,hMMl.out];omega
   replace hMM:=qH hMM;obtain⟨p0,p1⟩:=boxL2 c0;have hS:=qH (fun W (hb:Below wo.heap.size wo W)=>And.intro (cell_kept hb p0) (And.intro (cell_kept hb p1) (cell_kept hb hcu)));have hown0:OwX 100 8 EI wo wo.heap.size (.slice none 0 0) 0 (srtB cmpM [] (M.take 0)):=OwX.nil _ _;have hbo:=Below.refl wo.heap.size wo;clear hav2 hav3 hacc hav1;go_wp2_with fail
   go_loopw [7,8] (fun ov jv wr=>∃j:Nat,jv = .int .i64 (j:Int)∧j≤ms.length∧OwX 100 8 EI wr wo.heap.size ov j (srtB cmpM [] (M.take j))∧Hid (Below wo.heap.size wo wr)) (fun _ jv _=>ms.length - (intOf jv).toNat)
   case atStart=>exact⟨0,rfl,Nat.zero_le _,hown0,hbo⟩
   case round=>
    clear hown0 hbo p0 p1 hcu;obtain⟨j,rfl,hj,how,hbo⟩:=hrel;obtain⟨oa,oc,hov⟩:=how.shape;subst hov;obtain⟨p0,p1,hcu⟩:=hS.out wr hbo.out;by_cases hltj:j < ms.length
    ·have hltJ:(j:Int) < (ms.length:Int):=(by omega);obtain⟨hx8,hxc⟩:=hmc.out j hltj;obtain⟨x,hx⟩:=exE (ms.getD j []);have hxM:MvN n x:=hmm.out x (by rw[←hx];exact getD_mem hltj);have hstep:srtB cmpM [] (M.take (j+1))=insB cmpM [] (renM a x) (srtB cmpM [] (M.take j)):=(by rw[take_snoc (by rw[hMMl.out];exact hltj) [],hMi.out j hltj,hx,srtB_snoc]);rw[hx] at hx8 hxc;have hr8:=hMl.out x hxM;obtain⟨hrd,hto⟩:=hMr.out x hxM;obtain⟨rm,hrm⟩:=exE (renM a x);rw[hrm] at hr8 hstep hrd hto;obtain⟨k0,k1,k2,k3,k4,k5,k6,k7,rfl⟩:=eight hr8;obtain⟨y0,y1,y2,y3,y4,y5,y6,y7,rfl⟩:=eight hx8;replace hrd : [k0,k1,k2,k3,k4,k5,k6]=renR a [y0,y1,y2,y3,y4,y5,y6]:=hrd;obtain rfl:k7=y7:=hto;have HC:=qH (fun W (h:Below w.heap.size w W)=>HM.out W h y0 y1 y2 y3 y4 y5 y6 k7 hxM);rw[←hrd] at HC;simp only[rVal,List.map_cons,List.map_nil] at HC;have hbw:Below w.heap.size w wr:=bt hb.out hbo.out hb.out.size;obtain⟨q0,q1,q2,q3,q4,q5,q6,q7⟩:=(hxc.keep hbo.out).all8;replace hstep:=qH hstep;obtain⟨L,hL⟩:=exE (srtB cmpM [] (M.take j));have hLl:L.length=j:=(by rw[←hL];exact hSl.out j (by omega));rw[hL] at how hstep;replace hL:=qH hL;obtain⟨R,hR⟩:=exE ([k0,k1,k2,k3,k4,k5,k6,k7]);have hRr:Hid ([k0,k1,k2,k3,k4,k5,k6]=rdOf R):=(by rw[←hR];exact rfl);rw[hR] at hstep;replace hR:=qH hR;replace hrm:=qH hrm;clear hx hxM hx8 hxc hr8 hrd;go_upto_region 9 with fail
     refine regRen9 (b2:=w.heap.size) p1 hcu hltI hltJ q0 q1 q2 q3 q4 q5 q6 q7 (fun W h=>HC.out W (bt hbw h hbw.size)) ?_;intro y21 _ W5 hG5 _ _;obtain⟨hb5,_,h35⟩:=hG5;obtain⟨bn,rfl,hbn,kN⟩:=h35 rfl;obtain⟨wm,hwm⟩:=exF (wr);subst hwm;have hO2:=how.keep (EI.stab _) hb5;have hB2:=how.cap;have hZ2:=how.nilc;have hbo5:Below wo.heap.size wo W5:=btt hbo.out hb5;have hwo5:wo.heap.size≤W5.heap.size:=hbo5.size;have hrc:=qH (fun W (hb:Below W5.heap.size W5 W)=>boxL8 ((hb.block _ (Array.getElem?_eq_some_iff.1 kN).1).trans kN));have hKS:=qH (fun W (hb:Below W5.heap.size W5 W)=>(hO2.ks (by omega)).keep hb);obtain⟨K,hK⟩:=exE (bkK cmpM [] R L j);have hKl:K≤j:=(by rw[←hK];exact bkK_le L j);have hK0:Hid (bkK cmpM [] R L j=K):=hK
     have hins:Hid (srtB cmpM [] (M.take (j+1))=L.take K++R::L.drop K):=by
      show _=_;rw[hstep.out,insB,hLl,hK]
     clear hK hstep p0 p1 hcu q0 q1 q2 q3 q4 q5 q6 q7 how h35 HC;go_wp2_with fail
     go_loopg [10] j (fun f kv wx=>∃k:Nat,kv = .int .i64 (k:Int)∧k≤f∧k≤j∧Hid (bkK cmpM [] R L k=K)∧Below W5.heap.size W5 wx)
     case atStart=>exact⟨j,rfl,Nat.le_refl _,Nat.le_refl _,hK0,Below.refl _ _⟩
     case round=>
      clear hK0;obtain⟨k,rfl,hkf,hk,hKk,hbr⟩:=hrel;have hbk:=hbr.size;by_cases hc:0 < k∧cmpM R (L.getD (k - 1) []) < 0
      ·obtain⟨h0,hcz⟩:=hc;obtain⟨g,cap,hve,_⟩:=hO2.form (by omega);obtain⟨rfl,rfl⟩:oa=some ⟨g,0,none⟩∧oc=cap:=(by injection hve with h1 h2 h3;exact⟨h1,h3⟩);obtain⟨hx8,hxi⟩:=hO2.intCells (j:=k - 1) (by omega);obtain⟨x,hx⟩:=exE (L.getD (k - 1) [])
       have hK2:Hid (bkK cmpM [] R L (k - 1)=K):=by
        have h:=hKk.out;rw[show k=(k - 1)+1 by omega,bkK,if_pos hcz] at h;exact h
       rw[hx] at hx8 hxi hcz;obtain⟨x0,x1,x2,x3,x4,x5,x6,x7,rfl⟩:=eight hx8;have hf:=qH (fun wq (hC:Below wr.heap.size wr wq)=>And.intro (hrc.out wq (hbr.trans (hC.mono hbk))) ((hxi.keep hbr).keep hC).all8);have HC:=qH (fun W=>refRoundCompare k0 k1 k2 k3 k4 k5 k6 x0 x1 x2 x3 x4 x5 x6 W);have hcm:cmpM R [x0,x1,x2,x3,x4,x5,x6,x7]=cmpL [k0,k1,k2,k3,k4,k5,k6] [x0,x1,x2,x3,x4,x5,x6]:=(by rw[hRr.out];rfl);rw[hcm] at hcz;obtain⟨z,hz⟩:=exE (cmpL [k0,k1,k2,k3,k4,k5,k6] [x0,x1,x2,x3,x4,x5,x6]);rw[hz] at HC hcz;have hw1:IntKind.i64.wrap ((k:Int) - 1)=(k:Int) - 1:=IntWalk.i64_in _ (by omega);have hi0:0≤(k:Int) - 1:=(by omega);have hi1:(k:Int) - 1 < (j:Int):=(by omega);have hin2:((k:Int) - 1).toNat=k - 1:=(by omega);have hd:decide ((0:Int) < (k:Int))=true:=decide_eq_true (by omega);have h1k:(1:Int)≤(k:Int):=(by omega);replace hx:=qH hx;replace hz:=qH hz;clear hxi hx8 hO2 hve hcm;go_wp2_with fail
       refine wp_region_bw hmx (by kernel_rfl) ?_
       repeat (refine WQ.step fun K hK=>?_;go_simp;first|(refine hK _ ?_;clear hK K)|(apply Exists.intro;refine⟨fun wq hC=>?_,hK _ ?_⟩;(·(first|with_reducible rfl|(obtain⟨⟨d0,d1,d2,d3,d4,d5,d6,d7⟩,e0,e1,e2,e3,e4,e5,e6,e7⟩:=hf.out wq hC;go_simp;first|done|with_reducible rfl|with_reducible exact⟨rfl,rfl⟩)));clear hK K))
       (refine WQ.step fun K hK=>?_;go_simp;first|(refine hK _ ?_;clear hK K)|(apply Exists.intro;refine⟨fun wq hC=>?_,hK _ ?_⟩;(·(refine(HC.out wq).mono ?_;rintro e w' ⟨rfl,hb⟩;exact⟨rfl,bt hC hb hC.size⟩));clear hK K))
       repeat (refine WQ.step fun K hK=>?_;go_simp;first|(refine hK _ ?_;clear hK K)|(apply Exists.intro;refine⟨fun wq hC=>?_,hK _ ?_⟩;(·(first|with_reducible rfl|(go_simp;first|done|with_reducible rfl|with_reducible exact⟨rfl,rfl⟩)));clear hK K))
       refine WQ.nil ?_;intro w4 hb4;have hbf:=hbr.trans (hb4.mono hbk);clear hw1 hin2;go_wp2_with fail
       go_roundg (gk - 1)
       case measure=>omega
       case rel=>exact⟨k - 1,by rw[show((k - 1:Nat):Int)=(k:Int) - 1 by omega],by omega,by omega,hK2,hbf⟩
      ·obtain rfl:K=k:=by
        have h:=hKk.out;rcases Nat.eq_zero_or_pos k with h0|h0
        ·subst h0;exact h.symm
        ·rw[show k=(k - 1)+1 by omega,bkK,if_neg (fun h=>hc ⟨h0,h⟩)] at h;omega
       have hRl:(L.take K).length=K:=(by rw[List.length_take];omega);have hDl:(L.drop K).length=j - K:=(by rw[List.length_drop,hLl]);have hEI:Hid (∀W,EI W [.int .i64 k0,.int .i64 k1,.int .i64 k2,.int .i64 k3,.int .i64 k4,.int .i64 k5,.int .i64 k6,.int .i64 k7] R):=fun W=>by rw[←hR.out];rfl
       have hc8:Hid (∀u∈(#[.int .i64 k0,.int .i64 k1,.int .i64 k2,.int .i64 k3,.int .i64 k4,.int .i64 k5,.int .i64 k6,.int .i64 k7]:Array Value).toList,u.oneCell'=true):=fun u hu=>by
        simp only[List.mem_cons,List.not_mem_nil,or_false] at hu;rcases hu with rfl|rfl|rfl|rfl|rfl|rfl|rfl|rfl<;>rfl
       replace hRl:=qH hRl;replace hDl:=qH hDl;have hKc:(K:Int)≤(oc:Int):=(by omega);have hKx:(K:Int)≤(j:Int):=(by omega);by_cases h0:0 < K
       case' pos=>
        obtain⟨g,cap,hve,_⟩:=hO2.form (by omega);obtain⟨rfl,rfl⟩:oa=some ⟨g,0,none⟩∧oc=cap:=(by injection hve with h1 h2 h3;exact⟨h1,h3⟩);obtain⟨hx8,hxi⟩:=hO2.intCells (j:=K - 1) (by omega);obtain⟨x,hx⟩:=exE (L.getD (K - 1) [])
        have hcz:0≤cmpM R x:=by
         rw[←hx];rcases Int.lt_or_le (cmpM R (L.getD (K - 1) [])) 0 with h|h
         ·exact absurd ⟨h0,h⟩ hc
         ·exact h
        rw[hx] at hx8 hxi;obtain⟨x0,x1,x2,x3,x4,x5,x6,x7,rfl⟩:=eight hx8;have hf:=qH (fun wq (hC:Below wr.heap.size wr wq)=>And.intro (hrc.out wq (hbr.trans (hC.mono hbk))) ((hxi.keep hbr).keep hC).all8);have HC:=qH (fun W=>refRoundCompare k0 k1 k2 k3 k4 k5 k6 x0 x1 x2 x3 x4 x5 x6 W);have hcm:cmpM R [x0,x1,x2,x3,x4,x5,x6,x7]=cmpL [k0,k1,k2,k3,k4,k5,k6] [x0,x1,x2,x3,x4,x5,x6]:=(by rw[hRr.out];rfl);rw[hcm] at hcz;obtain⟨z,hz⟩:=exE (cmpL [k0,k1,k2,k3,k4,k5,k6] [x0,x1,x2,x3,x4,x5,x6]);rw[hz] at HC hcz;have hw1:IntKind.i64.wrap ((K:Int) - 1)=(K:Int) - 1:=IntWalk.i64_in _ (by omega);have hi0:0≤(K:Int) - 1:=(by omega);have hi1:(K:Int) - 1 < (j:Int):=(by omega);have hin2:((K:Int) - 1).toNat=K - 1:=(by omega);have hd:decide ((0:Int) < (K:Int))=true:=decide_eq_true (by omega);have hd2:decide (z < 0)=false:=decide_eq_false (by omega);have h1k:(1:Int)≤(K:Int):=(by omega);replace hx:=qH hx;replace hz:=qH hz;clear hxi hx8 hve hc hcm;go_wp2_with fail
        refine wp_region_bw hmx (by kernel_rfl) ?_
        repeat (refine WQ.step fun K hK=>?_;go_simp;first|(refine hK _ ?_;clear hK K)|(apply Exists.intro;refine⟨fun wq hC=>?_,hK _ ?_⟩;(·(first|with_reducible rfl|(obtain⟨⟨d0,d1,d2,d3,d4,d5,d6,d7⟩,e0,e1,e2,e3,e4,e5,e6,e7⟩:=hf.out wq hC;go_simp;first|done|with_reducible rfl|with_reducible exact⟨rfl,rfl⟩)));clear hK K))
        (refine WQ.step fun K hK=>?_;go_simp;first|(refine hK _ ?_;clear hK K)|(apply Exists.intro;refine⟨fun wq hC=>?_,hK _ ?_⟩;(·(refine(HC.out wq).mono ?_;rintro e w' ⟨rfl,hb⟩;exact⟨rfl,bt hC hb hC.size⟩));clear hK K))
        repeat (refine WQ.step fun K hK=>?_;go_simp;first|(refine hK _ ?_;clear hK K)|(apply Exists.intro;refine⟨fun wq hC=>?_,hK _ ?_⟩;(·(first|with_reducible rfl|(go_simp;first|done|with_reducible rfl|with_reducible exact⟨rfl,rfl⟩)));clear hK K))
        refine WQ.nil ?_;intro w4 hb4;clear hw1 hin2 hd2 hf HC
       case' neg=>
        have hd:decide ((0:Int) < (K:Int))=false:=decide_eq_false (by omega);clear hc;go_wp2_with fail
        refine wp_region_bw hmx (by kernel_rfl) ?_
        repeat (refine WQ.step fun K hK=>?_;go_simp;first|(refine hK _ ?_;clear hK K)|(apply Exists.intro;refine⟨fun wq hC=>?_,hK _ ?_⟩;(·(first|with_reducible rfl|(go_simp;first|done|with_reducible rfl|with_reducible exact⟨rfl,rfl⟩)));clear hK K))
        refine WQ.nil ?_;intro w4 hb4
       all_goals
        have hbf:=hbr.trans (hb4.mono hbk);have hK4:=hKS.out w4 hbf;rw[←hLl] at hK4;have hB4:W5.heap.size≤w4.heap.size:=hbf.size;have hn9:0+(L.take K).length≤1000000:=(by rw[hRl.out];omega);have hO0:OwX 100 8 EI w4 W5.heap.size (.slice none 0 0) 0 []:=OwX.nil _ _;have hKf:=hK4.front K (by omega);clear hd hK4;go_wp2_with (at_builtin;refine wpList_appXs (ys:=L.take K) elemMv (by decide) (by decide) rfl _ _ rfl rfl hO0 rfl hRl.out.symm hKf (fun h=>(hZ2 h).1) hn9 hB4 ?_)
        intro v5 w5 ho5 hg5 hb5' hx5;have ho5:OwX 100 8 EI w5 W5.heap.size v5 K (L.take K):=(by simpa only [Nat.zero_add,List.nil_append,hRl.out] using ho5);obtain⟨a5,c5,hv5⟩:=ho5.shape;subst hv5;have hb25:=hbf.trans hb5';obtain⟨d0,d1,d2,d3,d4,d5,d6,d7⟩:=hrc.out w5 hb25;have hB5:W5.heap.size≤w5.heap.size:=hb25.size;have hK9:K≤1000000000000:=(by omega);go_wp2_with (at_builtin;refine wpAppX (x:=R) elemMv (by decide) (by decide) (EI.stab _) rfl _ _ rfl rfl ho5 rfl rfl rfl hc8.out (hEI.out _) hK9 hB5 ?_)
        intro v6 w6 ho6 hg6 hb6 hx6;obtain⟨a6,c6,hv6⟩:=ho6.shape;subst hv6;have hb26:=hb25.trans hb6;have hB6:W5.heap.size≤w6.heap.size:=hb26.size;have hn10:K+1+(L.drop K).length≤1000000:=by rw[hDl.out];omega
        have hlen:Hid (K+1+(L.drop K).length=j+1):=by
         show _=_;rw[hDl.out];omega
        clear d0 d1 d2 d3 d4 d5 d6 d7 ho5;have hKS6:=OwX.rest (hO2.keep (EI.stab _) hb26) (by omega) (m:=K) (by omega);rcases Nat.lt_or_ge K oc with hcv|hcv
        case' inl=>
         have hne : ¬oc=K:=(by omega);rw[if_neg hne] at hKS6;try simp only[Option.map_some,Addr.add_lit,Nat.zero_add] at hKS6
         have hks6:=qH hKS6;clear hKS6;go_wp2_with (at_builtin;refine wpList_appXs (ys:=L.drop K) elemMv (by decide) (by decide) rfl _ _ rfl rfl ho6 rfl hDl.out.symm hks6.out.1 hks6.out.2 hn10 hB6 ?_)
         intro v7 w7 ho7 hg7 hb7 hx7
         have ho7:OwX 100 8 EI w7 W5.heap.size v7 (K+1+(L.drop K).length) (L.take K++R::L.drop K):=by
          first
           | exact ho7
           | (rw[hDl.out];exact ho7)
        case' inr=>
         have hd0:Hid (L.drop K = []):=List.drop_eq_nil_of_le (by omega);clear hKS6 hn10;have hn10:K+1+([]:List (List Int)).length≤1000000:=(by simp only[List.length_nil];omega);have hne:K=oc:=(by omega);subst hne;go_wp2_with (at_builtin;refine wpList_appXs (ys:=[]) elemMv (by decide) (by decide) rfl _ _ rfl rfl ho6 rfl rfl (KS.nil _ _ _ _) (fun _=>rfl) hn10 hB6 ?_)
         intro v7 w7 ho7 hg7 hb7 hx7
         have ho7:OwX 100 8 EI w7 W5.heap.size v7 (K+1+(L.drop K).length) (L.take K++R::L.drop K):=by
          rw[hd0.out]
          first
           | exact ho7
           | (simpa using ho7)
        all_goals
         have hfin:OwX 100 8 EI w7 wo.heap.size v7 (j+1) (srtB cmpM [] (M.take (j+1))):=by
          rw[hlen.out] at ho7;rw[hins.out];exact ho7.base hwo5
         have hbe:=hbo5.trans ((hb26.trans hb7).mono hwo5);replace hfin:=qH hfin;clear ho7 ho6;go_wp2_with fail
         go_roundw
         case rel=>exact⟨j+1,by go_num,by omega,hfin.out,hbe⟩
         case measure=>simp[intOf];omega
    ·obtain rfl:j=ms.length:=(by omega);rw[List.take_of_length_le (by rw[hMMl.out];exact Nat.le_refl _)] at how;obtain⟨rs,hrs⟩:=exE (RS.getD i []);have hys:srtB cmpM [] M=rs:=(by rw[←hrs,hRSi.out i hlt,hms,renS,hMM.out]);rw[hys] at how;have hbo2:=hbo.out;have d2:=(hbo2.block _ (Array.getElem?_eq_some_iff.1 c2).1).trans c2;have d1:=(hbo2.block _ (Array.getElem?_eq_some_iff.1 c1).1).trans c1;have d0:=(hbo2.block _ (Array.getElem?_eq_some_iff.1 c0).1).trans c0;have ho2:=ho.keep (ESt.stab (by decide)) hbo2;have hES:ESt wr [.slice oa ms.length oc] rs:=⟨_,rfl,by rw[how.length];exact how.base (Nat.zero_le _)⟩;have hc1:∀u∈(#[.slice oa ms.length oc]:Array Value).toList,u.oneCell'=true:=fun u hu=>by rw[List.mem_singleton.1 hu];rfl
     have hSt:Stab 98 ESt:=ESt.stab (by decide);have hstep:=take_snoc (xs:=RS) (k:=i) (by rw[hRSl.out];exact hlt) [];rw[hrs] at hstep;replace hrs:=qH hrs;obtain⟨z0,z1⟩:=boxL2 d2;have hsz2:w.heap.size+3≤wr.heap.size:=Nat.le_trans hsz hbo2.size;have hb2:Below w.heap.size w wr:=bt hb.out hbo2 hb.out.size;replace hstep:=qH hstep;clear how c0 c1 c2 ho hys;go_wp2_with (at_builtin;refine wpAppX elemSt (by decide) (by decide) hSt rfl _ _ rfl rfl ho2 rfl rfl rfl hc1 hES (by omega) hsz2 ?_)
     intro v' w3 ho3 hgr3 hb3 hx3;rw[←hstep.out] at ho3;have c2':=(hb3.block _ (by omega)).trans d2;have c1':=(hb3.block _ (by omega)).trans d1;have c0':=(hb3.block _ (by omega)).trans d0;obtain⟨va',vc',hv'⟩:=ho3.shape;subst hv';obtain⟨y0,y1⟩:=boxL2 c2';obtain⟨f0,f1⟩:=freeL2 c2';have hset:=heap_setCell_same w3 (w.heap.size+2) 1 _ 24 (.slice va' (i+1) vc') c2';have ho4:=ho3.other (E':=24) (ESt.stab (by decide)) (by decide) (KeepX.setCell (p:=⟨w.heap.size+2,1,none⟩) c2' (.slice va' (i+1) vc'));have hb4:Below w.heap.size w (w3.setCell ⟨w.heap.size+2,1,none⟩ (.slice va' (i+1) vc')):=(hb2.trans (hb3.mono (by omega))).setCell (p:=⟨w.heap.size+2,1,none⟩) (by simp) _;have hc14:=(Below.heap_setCell w3 ⟨w.heap.size+2,1,none⟩ (.slice va' (i+1) vc') (w.heap.size+1) (by simp)).trans c1';have hc04:=(Below.heap_setCell w3 ⟨w.heap.size+2,1,none⟩ (.slice va' (i+1) vc') w.heap.size (by simp)).trans c0';have hsz4:w.heap.size+3≤(w3.setCell ⟨w.heap.size+2,1,none⟩ (.slice va' (i+1) vc')).heap.size:=(by have:=hb3.size;simp[World.setCell];omega);clear ho2 ho3 hES hgr3 hx3 z0 z1 d0 d1 d2 p0 p1 hcu;go_wp2_with fail
     go_roundw
     case rel=>exact⟨i+1,_,by go_num,by omega,hb4,hc04,hc14,hset,ho4,hsz4⟩
     case measure=>simp[intOf];omega
  ·obtain rfl:i=ss.length:=(by omega);rw[List.take_of_length_le (by rw[hRSl.out];exact Nat.le_refl _)] at ho;obtain⟨p0,p1⟩:=boxL2 c0;obtain⟨z0,z1⟩:=boxL2 c1;obtain⟨y0,y1⟩:=boxL2 c2;obtain⟨f0,f1⟩:=freeL2 c1;have hRl:RS.length=ss.length:=hRSl.out
   have hRx:∀x∈RS,x.length≤2199023255552:=fun x hx=>by
    obtain⟨j,hj,rfl⟩:=List.mem_iff_getElem.1 hx;rw[←getD_eq hj [],hRSi.out j (by omega),renS_len];have:=hml.out (ss.getD j []) (getD_mem (by omega))
    omega
   replace hRl:=qH hRl;replace hRx:=qH hRx;go_wp2;refine storeEnd2 (u0:=.int .i64 (n:Int)) (u1:=.slice va ss.length vc) c1 ?_;intro W9 hW9 hb9 hk9 _ e0 e1;rw[←hW9];have hfin:OwAdv W9 (.agg #[.int .i64 (n:Int),.slice va ss.length vc]) n RS:=⟨_,rfl,by rw[hRl.out];exact(ho.other (ESt.stab (by decide)) (by decide) hk9).base (Nat.zero_le _),by rw[hRl.out];omega,hRx.out⟩;refine bodyPost_ret (v:=.agg #[.int .i64 (n:Int),.slice va ss.length vc]) (by simp[results,Tryz.results54,go_sem,e0,e1]) rfl ?_;exact⟨_,rfl,hfin,hb9 _ _ (by omega) hb.out⟩
end Go.Proofs.YtmikofeildnpdaaGreat
