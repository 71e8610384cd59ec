/- Texts of this claim, put together: PL PM PH QB. -/
import Derived.Test.YtcnedkkcgdkioaaGreatKAza

set_option maxRecDepth 100000
set_option maxHeartbeats 12800000
namespace Go.Proofs.YtcnedkkcgdkioaaGreat
open Go.RowKit
theorem sortVxNil (p:Option Addr) (cap:Nat) (w:World):Calls Tryz.prog 153 #[.slice p 0 cap,.func (.func 154) #[] #[]] w fun e w'=>e = .returned (.tuple #[])∧w'=w:=
 AnyF.slices_SortFunc_none (P:=Tryz.prog) (ρ:=Tryz.sortVx_ren) { Tryz.sortVx with } p cap (.func (.func 154) #[] #[]) w
theorem compactVxNil (p:Option Addr) (cap:Nat) (w:World):Calls Tryz.prog 155 #[.slice p 0 cap] w fun e w'=>e = .returned (.slice p 0 cap)∧w'=w:=by
 go_enter Tryz.func155, Tryz.ntmps155
 go_wp2;go_ret;exact⟨rfl,rfl⟩
theorem verticesC {w:World}{v:Value}{ss:List (List (List Int))}(hK:KSS 2 w v ss) (hn:ss.length≤100) (hl:∀s∈ss,0 < s.length∧s.length≤8) :
  Calls Tryz.prog 96 #[v] w fun e w'=>∃u,e = .returned u∧OwX 83 2 EI w' w.heap.size u (ptsX ss).length (ptsX ss)∧Below w.heap.size w w':=by
 have HC:=qH (concatVx hK (by omega) hl)
 have hfl:ss.flatten.length≤800:=by
  have:∀l:List (List (List Int)),(∀s∈l,s.length≤8)→l.flatten.length≤l.length * 8:=by
   intro l;induction l with
   | nil=>simp
   | cons a r ih=>
    intro h;have:=ih fun s hs=>h s (by simp[hs])
    have:=h a (by simp)
    simp only[List.flatten_cons,List.length_append,List.length_cons];omega
  have:=this ss fun s hs=>(hl s hs).2
  omega
 obtain⟨va,vc,rfl⟩:=hK.shape;obtain⟨M,hM⟩:=exE (ss.flatten);rw[hM] at HC hfl;have hpts:∀m:List (List Int),m.Perm M→m.Pairwise (fun a b=>¬cmpL b a < 0)→cpG m=ptsX ss:=fun m hp hs=>ptsX_sorted (by rw[hM];exact hp) hs;obtain⟨R,hR⟩:=exE (ptsX ss);rw[hR] at hpts⊢;replace hpts:=qH hpts;clear hR hM hK hl;go_enter Tryz.func96, Tryz.ntmps96
 go_wp2_with fail
 refine HC.out.mono ?_;rintro e w1 ⟨u,rfl,hO,hb1⟩;obtain⟨oa,oc,hsh⟩:=hO.shape;subst hsh;rcases Nat.eq_zero_or_pos M.length with h0|h0
 ·have hM0:=List.length_eq_zero_iff.1 h0;subst hM0;have hR0:R = []:=(hpts.out [] (List.Perm.refl _) List.Pairwise.nil).symm;subst hR0;have hOh:=qH hO;clear hO;go_wp2_with fail
  refine(sortVxNil _ _ _).mono ?_;rintro e w2 ⟨rfl,rfl⟩;go_wp2_with fail
  refine(compactVxNil _ _ _).mono ?_;rintro e w3 ⟨rfl,rfl⟩;go_wp2;go_ret;exact⟨_,rfl,hOh.out,hb1⟩
 ·obtain⟨g,cap,he,_⟩:=hO.form h0;injection he with e1 e2 e3;subst e1 e3;have HS:=qH (sortVxs hO (by omega));clear hO;go_wp2_with fail
  refine HS.out.mono ?_;rintro e w2 ⟨rfl,ys,hp,hso,hO2,hb2,-⟩;have hyl:=hp.length_eq;have HK:=qH (compactVx hO2 (by omega));have hcp:=hpts.out ys hp (hso.imp fun h=>by omega);rw[hcp] at HK;clear hO2 hp hso hyl;go_wp2_with fail
  refine HK.out.mono ?_;rintro e w3 ⟨m,rfl,hO3,hb3,-⟩;obtain rfl:=hO3.length;have hO3:=qH hO3;go_wp2;go_ret;exact⟨_,rfl,hO3.out,(hb1.trans hb2).trans hb3⟩
end Go.Proofs.YtcnedkkcgdkioaaGreat
namespace Go.Proofs.YtcnedkkcgdkioaaGreat
open Go.RowKit Go.ChangeMaps Go.MapKept Go.WideMaps
theorem nodup_le {α:Type} [DecidableEq α]:∀ {l m:List α},l.Nodup→(∀x∈l,x∈m)→l.length≤m.length
 | [],_,_,_=>Nat.zero_le _
 | x::r,m,hn,h=>by
  have hx:=h x (by simp);obtain⟨h1,h2⟩:=List.nodup_cons.1 hn;have:=nodup_le (l:=r) (m:=m.erase x) h2 fun y hy=>(List.mem_erase_of_ne (fun e=>h1 (by subst e;exact hy))).2 (h y (by simp[hy]))
  rw[List.length_erase_of_mem hx] at this;have:=List.length_pos_of_mem hx
  simp only[List.length_cons];omega
structure CxG (fs:List (List (List Int))):Prop where
 vs:∀s∈fs,VS s
 sm:∀s∈fs,SmS s
 asc:AscS fs
 max:∀s∈fs,(fs.any fun t=>pf s t)=false
 len:fs.length≤100
theorem maxX_cxg {l:List (List (List Int))}(hv:∀s∈l,VS s) (hs:∀s∈l,0 < s.length→SmS s) (hl:l.length≤100):CxG (maxX l) where
 vs s h:=hv s (maxX_mem.1 h).1
 sm s h:=hs s (maxX_mem.1 h).1 (maxX_mem.1 h).2.1
 asc:=maxX_asc hv
 max s h:=by
  rw[←covB_pf];have h3:=(maxX_mem.1 h).2.2;rw[Bool.eq_false_iff] at h3⊢;intro h4;obtain⟨t,h5,h6⟩:=covB_iff.1 h4;exact h3 (covB_iff.2 ⟨t,(maxX_mem.1 h5).1,h6⟩)
 len:=by
  refine Nat.le_trans ?_ hl;have hn:(maxX l).Nodup:=AscS.nodup (maxX_asc hv);exact nodup_le hn fun x hx=>(maxX_mem.1 hx).1
theorem TabV.lookA {w:World}{b B:Nat}{ms:List (List Int × Nat)}{x:List Int}(h:TabV w b B ms) (hx:WfV x) :
  ∃z,OI w B z (occ ms x).length (natI (occ ms x))∧∀W,Below w.heap.size w W→(Instr.lookup 164 (.map (some b)) (vxV x) false).run Tryz.prog W = .ok z W:=by
 obtain⟨m,hM,hWf,hT⟩:=h;have hA:=fun W (hb:Below w.heap.size w W)=>MX.look (vv:=(id:Value→Value)) keyX_vertex umIncT (zRowV W) (hM.keep (hb.block b hM.lt)).mx hWf hx;rcases hA w (Below.refl _ w) with⟨h1,h2,_⟩|⟨v,h1,h2,_⟩
 ·refine⟨.slice none 0 0,?_,fun W hb=>?_⟩
  ·rw[occ_none fun y hy e=>h1 (by rw[←e];exact hT.has y hy)];exact OI.nil _ _
  ·rcases hA W hb with⟨_,h4,_⟩|⟨v',h3,_,_⟩
   ·exact h4
   ·exact absurd (List.mem_map.2 ⟨_,h3,rfl⟩) h1
 ·obtain⟨i,hi⟩:=List.mem_iff_getElem?.1 h1;refine⟨v,(hT.row i _ hi).2,fun W hb=>?_⟩;rcases hA W hb with⟨h3,_,_⟩|⟨v',h3,h4,_⟩
  ·exact absurd (List.mem_map.2 ⟨_,h1,rfl⟩) h3
  ·obtain⟨j,hj⟩:=List.mem_iff_getElem?.1 h3;have e:=hT.one i j _ _ hi hj rfl;subst e;rw[hi] at hj;injection hj with hj;injection hj with _ hj;subst hj;exact h4
theorem checkCx {w:World}{v:Value}{fs:List (List (List Int))}(hK:KSSC 2 w v fs) (hG:CxG fs) :
  Calls Tryz.prog 44 #[.agg #[v]] w fun e w'=>e = .returned (.int .i64 0)∧Below w.heap.size w w':=by
 have hmx : Tryz.prog.follows .mixedOrders=true:=by kernel_rfl
 obtain⟨W1,hW1⟩:=exF (w.alloc (.cells #[v] 57));have hb1:Below w.heap.size w W1:=by rw[hW1];exact(Below.refl _ w).alloc (Nat.le_refl _) _
 have kR:W1.heap[w.heap.size]? = some (.cells #[v] 57):=by rw[hW1];exact heap_alloc_new _ _
 have HKS:=qH (fun W (hb:Below w.heap.size w W)=>hK.keep hb);have hfl:=hG.len;have hWf:∀s∈fs,∀x∈s,WfV x:=fun s h x hx=>⟨hG.vs s h x hx,(hG.sm s h).2.2.1 x hx⟩;have hs8:∀s∈fs,0 < s.length∧s.length≤8:=fun s h=>⟨(hG.sm s h).1,(hG.sm s h).2.1⟩;have hHI:=qH (fun W (hb:Below w.heap.size w W)=>incidenceC (hK.keep hb).kss hWf (by omega) (fun s h=>by have:=(hs8 s h).2;omega))
 have hcz:Hid (∀s∈fs,((occ (incN fs fs.length) (s.getD 0 [])).any fun i=>pfG s (fs.getD i []))=false):=fun s h=>by
  rw[covG_eq (fun t ht=>(hG.sm t ht).2.2.2) (hG.sm s h).2.2.2 (hG.sm s h).1];exact hG.max s h
 have hca:Hid (∀i,0 < i→i < fs.length→cmpS (fs.getD (i - 1) []) (fs.getD i []) < 0):=fun i h0 hi=>by
  rw[getD_eq hi,getD_eq (show i - 1 < fs.length by omega)];exact(List.pairwise_iff_getElem.1 hG.asc) (i - 1) i (by omega) hi (by omega)
 have hz:Hid (∀s∈fs,chkS s=0):=fun s h=>chkS_zero (hG.sm s h);obtain⟨a,c,b,off,rfl,ha,hc,-⟩:=hK;have hcl:=qH hc;have hkR:=qH (fun W (hb:Below W1.heap.size W1 W)=>cell_of_one (keptO hb kR));have r0:=hkR.out W1 (Below.refl _ _);have hWf:=qH hWf;have hs8:=qH hs8;have dn:decide ((4096:Int) < (fs.length:Int))=false:=decide_eq_false (by omega);rw[hW1] at r0;clear hc kR hG;go_enter Tryz.func44, Tryz.ntmps44
 go_wp2_with fail
 rw[←hW1];replace hW1:=qH hW1;go_loopw [16] (fun iv wr=>∃i:Nat,iv = .int .i64 i∧i≤fs.length∧Below W1.heap.size W1 wr) (fun iv _=>fs.length - (intOf iv).toNat)
 case atStart=>exact⟨0,rfl,by omega,Below.refl _ _⟩
 case round=>
  clear r0;obtain⟨i,rfl,hi,hbr⟩:=hrel;have r0:=hkR.out wr hbr;by_cases hlt:i < fs.length
  ·have hii:(i:Int) < (fs.length:Int):=(by omega);obtain rfl:=ha (by omega);obtain⟨u,hu,hku⟩:=hcl.out i hlt;have hb2:=btt hb1 hbr;replace hu:=cell_kept hb2 hu;have hz1:=hz.out (fs.getD i []) (by rw[getD_eq hlt];exact List.getElem_mem hlt);have hca1:=hca.out i;obtain⟨s,hs⟩:=exE (fs.getD i []);rw[hs] at hku hz1 hca1;have hch:=checkS (hku.ks.keep hb2);rw[hz1] at hch;have hKu:=qH (fun W (hb:Below wr.heap.size wr W)=>hku.ks.keep (btt hb2 hb));obtain⟨ua,uc,rfl⟩:=hku.shape;replace hch:=qH hch;replace hs:=qH hs;rcases Nat.eq_zero_or_pos i with h0|h0
   case' inl=>
    subst h0;rw[Nat.add_zero] at hu;clear hz1 hku hca1;go_wp2_with fail
    refine hch.out.mono ?_;rintro e w3 ⟨rfl,hb3⟩;clear r0;have r0:=hkR.out w3 (btt hbr hb3);go_wp2_with fail
    go_roundw
    case rel=>exact⟨1,rfl,by omega,btt hbr hb3⟩
    case measure=>simp[intOf];omega
   case' inr=>
    obtain⟨p,hp,hkp⟩:=hcl.out (i - 1) (by omega);have hneg:=hca1 h0 hlt;obtain⟨t,ht⟩:=exE (fs.getD (i - 1) []);rw[ht] at hkp hneg;have hCC:=fun W (hb:Below wr.heap.size wr W)=>compareC (hkp.ks.keep (btt hb2 hb)) (hKu.out W hb);obtain⟨Z,hZ⟩:=exE (cmpS t s);rw[hZ] at hneg hCC;obtain⟨pa,pc,rfl⟩:=hkp.shape;have hpr:=cell_kept hb2 hp;have hp3:=qH (fun W (hb:Below wr.heap.size wr W)=>cell_kept hb hpr);have hu3:=qH (fun W (hb:Below wr.heap.size wr W)=>cell_kept hb hu);have hpos:decide ((0:Int) < (i:Int))=true:=decide_eq_true (by omega);have hsub:IntKind.i64.wrap ((i:Int) - 1)=((i - 1:Nat):Int):=(by rw[show(i:Int) - 1=((i - 1:Nat):Int) by omega];exact IntWalk.i64_in _ (by omega));have hlt2:((i - 1:Nat):Int) < (fs.length:Int):=(by omega);have hnn:(0:Int)≤((i - 1:Nat):Int):=Int.natCast_nonneg _;have hdz:decide ((0:Int)≤Z)=false:=decide_eq_false (by omega);obtain⟨j,hj⟩:=exE (i - 1);rw[hj] at hsub hlt2 hnn hp3;replace hj:=qH hj;replace hCC:=qH hCC;have hneg:=qH hneg;clear hz1 hku hca1 hkp hp ht hZ hpr;go_wp2_with fail
    refine hch.out.mono ?_;rintro e w3 ⟨rfl,hb3⟩;clear r0;have r0:=hkR.out w3 (btt hbr hb3);have q0:=hp3.out w3 hb3;go_wp2_with fail
    refine(hCC.out w3 hb3).mono ?_;rintro e w4 ⟨rfl,hb4,-⟩;clear r0 q0;have r0:=hkR.out w4 (btt hbr (btt hb3 hb4));go_wp2_with fail
    go_roundw
    case rel=>exact⟨i+1,by go_num,by omega,btt hbr (btt hb3 hb4)⟩
    case measure=>simp[intOf];omega
  ·obtain rfl:i=fs.length:=(by omega);have HI2:=qH (hHI.out wr (btt hb1 hbr));go_wp2_with fail
   refine HI2.out.mono ?_;rintro e w5 ⟨mb,rfl,hT5,hb5⟩;clear r0;have hb15:=btt hbr hb5;have r0:=hkR.out w5 hb15;have HT:=qH (fun W (hb:Below w5.heap.size w5 W)=>hT5.keep hb);clear hT5;have hb05:=btt hb1 hb15;go_wp2_with fail
   obtain⟨wz,hwz⟩:=exF (w5);rw[←hwz] at HT hb15 hb05⊢;clear r0 hwz hb5 hbr;go_loopw [46] (fun iv wr=>∃i:Nat,iv = .int .i64 i∧i≤fs.length∧Below wz.heap.size wz wr) (fun iv _=>fs.length - (intOf iv).toNat)
   case atStart=>exact⟨0,rfl,by omega,Below.refl _ _⟩
   case round=>
    obtain⟨i,rfl,hi,hbr⟩:=hrel;have hb1r:=btt hb15 hbr;have hb0r:=btt hb05 hbr;by_cases hlt:i < fs.length
    ·have hii:(i:Int) < (fs.length:Int):=(by omega);obtain rfl:=ha (by omega);obtain⟨u,hu,hku⟩:=hcl.out i hlt;replace hu:=cell_kept hb0r hu;have hsm:fs.getD i []∈fs:=(by rw[getD_eq hlt];exact List.getElem_mem hlt);have hcz1:=hcz.out _ hsm;obtain⟨s,hs⟩:=exE (fs.getD i []);rw[hs] at hku hsm hcz1;obtain⟨hs0,hs9⟩:=hs8.out s hsm;obtain⟨sa,sc,sb,so,rfl,hsa,hsc,hsl1,hsl2⟩:=id hku;obtain rfl:=hsa hs0;obtain⟨x2,xi⟩:=hsc 0 hs0;have hwf:=hWf.out s hsm (s.getD 0 []) (by rw[getD_eq hs0];exact List.getElem_mem hs0)
     have hOc:(occ (incN fs fs.length) (s.getD 0 [])).length≤1000000:=by
      have h1:=occ_len (incN fs fs.length) (s.getD 0 []);have h2:=incN_len (ss:=fs) (fun s h=>by have:=(hs8.out s h).2;omega) fs.length;omega
     obtain⟨x,hx⟩:=exE (s.getD 0 []);rw[hx] at x2 xi hwf hOc hcz1;obtain⟨p,q,rfl⟩:=two x2;obtain⟨c0,c1⟩:=xi.all2;rw[Nat.zero_mul,Nat.add_zero] at c0 c1;obtain⟨z,hzO,hlk⟩:=(HT.out wr hbr).lookA hwf;obtain⟨za,zc,hzv⟩:=hzO.shape;subst hzv;have hcv:=fun W (hb:Below wr.heap.size wr W)=>coveredC (HKS.out W (btt hb0r hb)) (hku.keep (btt hb0r hb)) (OI.intsE (hzO.keep hb) (by omega)) (fun j hj=>((occ_mem _ _ _ _).1 hj).1);rw[hcz1] at hcv;replace hcv:=qH hcv
     have HB:Hid (∀W,Below wr.heap.size wr W→W.cell? ⟨sb,so,none⟩=some (.int .i64 p)∧W.cell? ⟨sb,so+1,none⟩=some (.int .i64 q)∧W.cell? ⟨w.heap.size,0,none⟩=some (.slice (some ⟨b,off,none⟩) fs.length c)∧(Instr.lookup 164 (.map (some mb)) (.agg #[.int .i64 p,.int .i64 q]) false).run Tryz.prog W = .ok (.slice za (occ (incN fs fs.length) [p,q]).length zc) W):=
      fun W hb=>⟨cell_kept (btt hb0r hb) c0,cell_kept (btt hb0r hb) c1,hkR.out W (btt hb1r hb),hlk W hb⟩
     have hs0i:(0:Int) < (s.length:Int):=(by omega);have r0:=hkR.out wr hb1r;clear hcz1 hsm hku hsc xi x2 c0 c1 hwf hx hs hlk hzO hOc;go_upto_region 16 with fail
     clear r0;refine wp_region_bw hmx (by kernel_rfl) ?_
     repeat (refine WQ.step fun K hK=>?_;go_simp;first|(refine hK _ ?_;clear hK K)|(apply Exists.intro;refine⟨fun wq hC=>?_,hK _ ?_⟩;(·(first|with_reducible rfl|(obtain⟨q0,q1,q2,q3⟩:=HB.out wq hC;go_simp;first|done|with_reducible rfl|with_reducible exact⟨rfl,rfl⟩)));clear hK K))
     (refine WQ.step fun K hK=>?_;go_simp;first|(refine hK _ ?_;clear hK K)|(apply Exists.intro;refine⟨fun wq hC=>?_,hK _ ?_⟩;(·(refine(hcv.out wq hC).mono ?_;rintro e w' ⟨rfl,hb'⟩;exact⟨rfl,btt hC hb'⟩));clear hK K))
     refine WQ.nil ?_;intro w4 hb4;go_wp2_with fail
     go_roundw
     case rel=>exact⟨i+1,by go_num,by omega,btt hbr hb4⟩
     case measure=>simp[intOf];omega
    ·obtain rfl:i=fs.length:=(by omega);go_wp2_with fail
     go_ret;exact⟨rfl,hb0r⟩
theorem verticesCx {w:World}{v:Value}{fs:List (List (List Int))}(h:CxO w v fs) (hG:CxG fs) :
  Calls Tryz.prog 48 #[v] w fun e w'=>∃u,e = .returned (.tuple #[u,.int .i64 0])∧OwX 83 2 EI w' w.heap.size u (ptsX fs).length (ptsX fs)∧Below w.heap.size w w':=by
 obtain⟨fa,fc,rfl,hO⟩:=h;have hfl:=hG.len;have hs8:∀s∈fs,0 < s.length∧s.length≤8:=fun s h=>⟨(hG.sm s h).1,(hG.sm s h).2.1⟩;have hK:=hO.kssc (by omega) (fun x hx=>by have:=(hs8 x hx).2;omega);obtain⟨W1,hW1⟩:=exF (w.alloc (.cells #[.slice fa fs.length fc] 57));have hb1:Below w.heap.size w W1:=by rw[hW1];exact(Below.refl _ w).alloc (Nat.le_refl _) _
 have kR:W1.heap[w.heap.size]? = some (.cells #[.slice fa fs.length fc] 57):=by rw[hW1];exact heap_alloc_new _ _
 have HC:=qH (checkCx (hK.keep hb1) hG);have HV:=qH (fun W (hb:Below w.heap.size w W)=>verticesC (hK.keep hb).kss hfl hs8);have hkR:=qH (fun W (hb:Below W1.heap.size W1 W)=>cell_of_one (keptO hb kR));have r0:=hkR.out W1 (Below.refl _ _);rw[hW1] at r0;clear kR hK hO hG;go_enter Tryz.func48, Tryz.ntmps48
 go_wp2_with fail
 rw[←hW1];replace hW1:=qH hW1;refine HC.out.mono ?_;rintro e w2 ⟨rfl,hb2⟩;clear r0;have r0:=hkR.out w2 hb2;have hb12:=btt hb1 hb2;have HV2:=qH (HV.out w2 hb12);go_wp2_with fail
 refine HV2.out.mono ?_;rintro e w3 ⟨u,rfl,hO3,hb3⟩;have hO3:=qH (hO3.base hb12.size);go_wp2;go_ret2
 exact⟨_,rfl,hO3.out,btt hb12 hb3⟩
end Go.Proofs.YtcnedkkcgdkioaaGreat
namespace Go.Proofs.YtcnedkkcgdkioaaGreat
open Go.RowKit
theorem drop_getD {α:Type}{l:List α}{i:Nat}{d:α}(h:i < l.length):l.drop i=l.getD i d::l.drop (i+1):=by
 rw[List.drop_eq_getElem_cons h,getD_eq h]
theorem refCompareV {w:World}{u v:Value}{s t:List (List Int)}(h:KS 2 w u s) (k:KS 2 w v t) :
  Calls Tryz.prog 70 #[u,v] w fun e w'=>e = .returned (.int .i64 (cmpS s t))∧Below w.heap.size w w':=by
 have hmx : Tryz.prog.follows .mixedOrders=true:=by kernel_rfl
 obtain⟨sa,sc,sb,so,rfl,hsa,hsc,hsl⟩:=h;obtain⟨ta,tc,tb,to',rfl,hta,htc,htl⟩:=k;have hcs:=qH hsc;have hct:=qH htc;obtain⟨E,hE⟩:=exE (cmpS s t);rw[hE];have h0:Hid (cmpS (s.drop 0) (t.drop 0)=E):=hE;clear hE hsc htc;go_enter Tryz.func70, Tryz.ntmps70
 go_wp2_with fail
 go_loopw [5] (fun iv wr=>∃i:Nat,iv = .int .i64 i∧i≤s.length∧i≤t.length∧Hid (cmpS (s.drop i) (t.drop i)=E)∧Below w.heap.size w wr) (fun iv _=>s.length - (intOf iv).toNat)
 case atStart=>exact⟨0,rfl,by omega,by omega,h0,Below.refl _ _⟩
 case round=>
  clear h0;obtain⟨i,rfl,hi,hj,hg,hbr⟩:=hrel;by_cases hls:i < s.length
  ·have hii:(i:Int) < (s.length:Int):=(by omega);by_cases hlt:i < t.length
   ·have hji:(i:Int) < (t.length:Int):=(by omega);obtain rfl:=hsa (by omega);obtain rfl:=hta (by omega);obtain⟨x2,xi⟩:=hcs.out i hls;obtain⟨y2,yi⟩:=hct.out i hlt;have hst:=hg.out;rw[drop_getD hls (d:=[]),drop_getD hlt (d:=[])] at hst;obtain⟨x,hx⟩:=exE (s.getD i []);obtain⟨y,hy⟩:=exE (t.getD i []);rw[hx] at x2 xi hst;rw[hy] at y2 yi hst;rw[cmpS_cons (by rw[x2,y2])] at hst;obtain⟨a,b,rfl⟩:=two x2;obtain⟨c,d,rfl⟩:=two y2;obtain⟨c0,c1⟩:=xi.all2;obtain⟨d0,d1⟩:=yi.all2;have HKB:=qH (fun W (hb:Below w.heap.size w W)=>And.intro (cell_kept hb c0) (And.intro (cell_kept hb c1) (And.intro (cell_kept hb d0) (cell_kept hb d1))));have HO:=fun W=>refCmpV a b c d W;obtain⟨Z,hZ⟩:=exE (cmpL [a,b] [c,d]);rw[hZ] at HO hst;replace HO:=qH HO;replace hst:=qH hst;clear hx hy xi yi x2 y2 hg hZ c0 c1 d0 d1;go_wp2_with fail
    refine wp_region_bw hmx (by kernel_rfl) ?_
    repeat (refine WQ.step fun K hK=>?_;go_simp;first|(refine hK _ ?_;clear hK K)|(apply Exists.intro;refine⟨fun wq hC=>?_,hK _ ?_⟩;(·(first|with_reducible rfl|(obtain⟨q0,q1,q2,q3⟩:=HKB.out wq (btt hbr hC);go_simp;first|done|with_reducible rfl|with_reducible exact⟨rfl,rfl⟩)));clear hK K))
    (refine WQ.step fun K hK=>?_;go_simp;first|(refine hK _ ?_;clear hK K)|(apply Exists.intro;refine⟨fun wq hC=>?_,hK _ ?_⟩;(·(refine(HO.out wq).mono ?_;rintro e w' ⟨rfl,hb'⟩;exact⟨rfl,btt hC hb'⟩));clear hK K))
    repeat (refine WQ.step fun K hK=>?_;go_simp;first|(refine hK _ ?_;clear hK K)|(apply Exists.intro;refine⟨fun wq hC=>?_,hK _ ?_⟩;(·(first|with_reducible rfl|(go_simp;first|done|with_reducible rfl|with_reducible exact⟨rfl,rfl⟩)));clear hK K))
    refine WQ.nil ?_;intro w4 hb4;by_cases hz:Z=0
    ·have hg2:Hid (cmpS (s.drop (i+1)) (t.drop (i+1))=E):=(by show _=_;rw[←hst.out,if_pos hz]);subst hz;go_wp2_with fail
     go_roundw
     case rel=>exact⟨i+1,by go_num,by omega,by omega,hg2,btt hbr hb4⟩
     case measure=>simp[intOf];omega
    ·have hg2:Hid (Z=E):=(by show _=_;rw[←hst.out,if_neg hz]);have dz:(Z == 0)=false:=(by simpa using hz);replace hz:=qH hz;go_wp2_with fail
     go_ret;exact⟨by rw[hg2.out];rfl,btt hbr hb4⟩
   ·obtain rfl:i=t.length:=by omega
    have hEv:Hid (E=1):=by
     show _=_;obtain⟨x2,_⟩:=hcs.out t.length hls;rw[←hg.out,List.drop_eq_nil_of_le (Nat.le_refl _),drop_getD hls (d:=[]),cmpS_nr x2]
    have d1:decide ((s.length:Int) < (t.length:Int))=false:=decide_eq_false (by omega);have d2:decide ((t.length:Int) < (s.length:Int))=true:=decide_eq_true (by omega);clear hg;go_wp2_with fail
    go_ret;exact⟨by rw[hEv.out];rfl,hbr⟩
  ·obtain rfl:i=s.length:=(by omega);rcases Nat.lt_or_ge s.length t.length with hlt|hge
   ·have hEv:Hid (E = -1):=by
     show _=_;obtain⟨y2,_⟩:=hct.out s.length hlt;rw[←hg.out,List.drop_eq_nil_of_le (Nat.le_refl _),drop_getD hlt (d:=[]),cmpS_nl y2]
    have d1:decide ((s.length:Int) < (t.length:Int))=true:=decide_eq_true (by omega);clear hg;go_wp2_with fail
    go_ret;exact⟨by rw[hEv.out];rfl,hbr⟩
   ·have he:s.length=t.length:=by omega
    have hEv:Hid (E=0):=by
     show _=_;rw[←hg.out,List.drop_eq_nil_of_le (Nat.le_refl _),List.drop_eq_nil_of_le (by omega),cmpS_nil]
    have d1:decide ((s.length:Int) < (t.length:Int))=false:=decide_eq_false (by omega);have d2:decide ((t.length:Int) < (s.length:Int))=false:=decide_eq_false (by omega);replace he:=qH he;clear hg;go_wp2_with fail
    go_ret;exact⟨by rw[hEv.out];rfl,hbr⟩
theorem refSameVx {w:World}{u v:Value}{s t:List (List Int)}(h:KS 2 w u s) (k:KS 2 w v t) (hs:VS s) (ht:VS t) :
  Calls Tryz.prog 26 #[u,v] w fun e w'=>e = .returned (.bool (decide (s=t)))∧Below w.heap.size w w':=by
 have HC:=qH (refCompareV h k);obtain⟨B,hB⟩:∃B,decide (s=t)=B:=⟨_,rfl⟩;rw[hB];have hz:=cmpS_zero hs ht;obtain⟨Z,hZ⟩:=exE (cmpS s t);rw[hZ] at HC hz
 have hBZ:(Z == 0)=B:=by
  rw[←hB,Bool.eq_iff_iff,decide_eq_true_eq,←hz];simp
 obtain⟨sa,sc,rfl⟩:=h.shape;obtain⟨ta,tc,rfl⟩:=k.shape;clear hB hz hZ h k;go_enter Tryz.func26, Tryz.ntmps26
 go_wp2_with fail
 refine HC.out.mono ?_;rintro e w3 ⟨rfl,hb3⟩;go_wp2;go_ret;exact⟨rfl,hb3⟩
theorem refSameAll {w:World}{u v:Value}{xs ys:List (List (List Int))}(hx:KSS 2 w u xs) (hy:KSS 2 w v ys) (hvx:∀s∈xs,VS s) (hvy:∀s∈ys,VS s) :
  Calls Tryz.prog 53 #[u,v] w fun e w'=>e = .returned (.bool (decide (xs=ys)))∧Below w.heap.size w w':=by
 have hmx : Tryz.prog.follows .mixedOrders=true:=by kernel_rfl
 obtain⟨xa,xc,xb,xo,rfl,hxa,hxc,hxl⟩:=hx;obtain⟨ya,yc,yb,yo,rfl,hya,hyc,hyl⟩:=hy;obtain⟨B,hB⟩:∃B,decide (xs=ys)=B:=⟨_,rfl⟩;rw[hB];replace hB:=qH hB;replace hxc:=qH hxc;replace hyc:=qH hyc;by_cases hlen:xs.length=ys.length
 ·rw[←hlen];replace hlen:=qH hlen;have h0:Hid (xs.take 0=ys.take 0):=rfl;go_enter Tryz.func53, Tryz.ntmps53
  go_wp2_with fail
  go_loopw [5] (fun iv wr=>∃i:Nat,iv = .int .i64 i∧i≤xs.length∧Hid (xs.take i=ys.take i)∧Below w.heap.size w wr) (fun iv _=>xs.length - (intOf iv).toNat)
  case atStart=>exact⟨0,rfl,by omega,h0,Below.refl _ w⟩
  case round=>
   clear h0;obtain⟨i,rfl,hi,ht,hbr⟩:=hrel;by_cases hlt:i < xs.length
   ·obtain rfl:=hxa (by omega);obtain rfl:=hya (by rw[←hlen.out];omega);have hii:(i:Int) < (xs.length:Int):=(by omega);have hlt':i < ys.length:=(by rw[←hlen.out];exact hlt);obtain⟨p,cp,kp⟩:=hxc.out i hlt;obtain⟨q,cq,kq⟩:=hyc.out i hlt';replace cp:=cell_kept hbr cp;replace cq:=cell_kept hbr cq;have vx:=hvx (xs.getD i []) (by rw[getD_eq hlt];exact List.getElem_mem hlt);have vy:=hvy (ys.getD i []) (by rw[getD_eq hlt'];exact List.getElem_mem hlt');obtain⟨x,hx⟩:=exE (xs.getD i []);obtain⟨y,hy⟩:=exE (ys.getD i []);rw[hx] at kp vx;rw[hy] at kq vy;have HS:=fun W (hb:Below wr.heap.size wr W)=>refSameVx (kp.keep (btt hbr hb)) (kq.keep (btt hbr hb)) vx vy;obtain⟨pa,pc,rfl⟩:=kp.shape;obtain⟨qa,qc,rfl⟩:=kq.shape;obtain⟨C,hC⟩:∃C,decide (x=y)=C:=⟨_,rfl⟩;rw[hC] at HS;have hyes:C=true→xs.take (i+1)=ys.take (i+1):=fun e=>takes_next ht.out hlt hlt' (by rw[hx,hy];exact of_decide_eq_true (hC.trans e))
    have hno:C=false→B=false:=fun e=>by
     rw[←hB.out];refine decide_eq_false fun h=>of_decide_eq_false (hC.trans e) ?_;rw[←hx,←hy,h]
    replace HS:=qH HS;replace hyes:=qH hyes;replace hno:=qH hno;clear hx hy ht kp kq hC vx vy;go_wp2_with fail
    have HKB:=qH (fun W (hb:Below wr.heap.size wr W)=>And.intro (cell_kept hb cp) (cell_kept hb cq));clear cp cq;refine wp_region_bw hmx (by kernel_rfl) ?_
    repeat (refine WQ.step fun K hK=>?_;go_simp;first|(refine hK _ ?_;clear hK K)|(apply Exists.intro;refine⟨fun wq hC=>?_,hK _ ?_⟩;(·(first|with_reducible rfl|(obtain⟨q0,q1⟩:=HKB.out wq hC;go_simp;first|done|with_reducible rfl|with_reducible exact⟨rfl,rfl⟩)));clear hK K))
    (refine WQ.step fun K hK=>?_;go_simp;first|(refine hK _ ?_;clear hK K)|(apply Exists.intro;refine⟨fun wq hC=>?_,hK _ ?_⟩;(·(refine(HS.out wq hC).mono ?_;rintro e w' ⟨rfl,hb'⟩;exact⟨rfl,btt hC hb'⟩));clear hK K))
    repeat (refine WQ.step fun K hK=>?_;go_simp;first|(refine hK _ ?_;clear hK K)|(apply Exists.intro;refine⟨fun wq hC=>?_,hK _ ?_⟩;(·(first|with_reducible rfl|(go_simp;first|done|with_reducible rfl|with_reducible exact⟨rfl,rfl⟩)));clear hK K))
    refine WQ.nil ?_;intro w3 hb3;cases C
    ·go_wp2_with fail
     go_ret;exact⟨by rw[hno.out (by first|rfl|trivial)];rfl,btt hbr hb3⟩
    ·go_wp2_with fail
     go_roundw
     case rel=>exact⟨i+1,by go_num,hlt,hyes.out (by first|rfl|trivial),btt hbr hb3⟩
     case measure=>simp[intOf];omega
   ·have hBt:Hid (B=true):=by
     show _=_;rw[←hB.out];exact decide_eq_true (takes_all ht.out (by omega) (by rw[←hlen.out];omega))
    clear ht;go_wp2;go_ret;exact⟨by rw[hBt.out];rfl,hbr⟩
 ·have hBf:B=false:=by rw[←hB.out];exact decide_eq_false fun h=>hlen (by rw[h])
  subst hBf;have h1:((xs.length:Int) == (ys.length:Int))=false:=by simp;omega
  go_enter Tryz.func53, Tryz.ntmps53
  go_wp2;go_ret;exact⟨rfl,Below.refl _ w⟩
theorem refSameCx {w:World}{u v:Value}{xs ys:List (List (List Int))}(hx:KSS 2 w u xs) (hy:KSS 2 w v ys) (hvx:∀s∈xs,VS s) (hvy:∀s∈ys,VS s) :
  Calls Tryz.prog 25 #[.agg #[u],.agg #[v]] w fun e w'=>e = .returned (.bool (decide (xs=ys)))∧Below w.heap.size w w':=by
 obtain⟨W1,hW1⟩:=exF ((w.alloc (.cells #[u] 57)).alloc (.cells #[v] 57));have hb1:Below w.heap.size w W1:=by rw[hW1];exact((Below.refl _ w).alloc (Nat.le_refl _) _).alloc (by simp) _
 have HS:=qH (refSameAll (hx.keep hb1) (hy.keep hb1) hvx hvy);obtain⟨xa,xc,rfl⟩:=hx.shape;obtain⟨ya,yc,rfl⟩:=hy.shape
 have kA:W1.heap[w.heap.size]? = some (.cells #[.slice xa xs.length xc] 57):=by
  rw[hW1];exact(Below.heap_alloc _ _ _ (by simp)).trans (heap_alloc_new w _)
 have kB:W1.heap[w.heap.size+1]? = some (.cells #[.slice ya ys.length yc] 57):=by
  rw[hW1];have:=heap_alloc_new (w.alloc (.cells #[.slice xa xs.length xc] 57)) (.cells #[.slice ya ys.length yc] 57)
  rwa [World.size_alloc] at this
 have z0:=cell_of_one kA;have z1:=cell_of_one kB;rw[hW1] at z0 z1;clear kA kB hx hy;go_enter Tryz.func25, Tryz.ntmps25
 go_wp2_with fail
 rw[←hW1];replace hW1:=qH hW1;refine HS.out.mono ?_;rintro e w3 ⟨rfl,hb3⟩;go_wp2;go_ret;exact⟨rfl,btt hb1 hb3⟩
def vecX (v:List Int):List (List Int):=simN (fun _=>true) v v.length
theorem simT_next {v:List Int}{p:Nat}:simN (fun _=>true) v (p+1)=simN (fun _=>true) v p ++ [[(p:Int),v.getD p 0]]:=by rw[simN,if_pos rfl]
theorem simT_len {v:List Int}:∀p,(simN (fun _=>true) v p).length=p
 | 0=>rfl
 | p+1=>by rw[simT_next,List.length_append,simT_len p];rfl
theorem vecX_len (v:List Int):(vecX v).length=v.length:=simT_len _
theorem refVectorX {w:World}{u:Value}{l:List Int}(h:Ints w u l) (hl:l.length≤1000) :
  Calls Tryz.prog 43 #[u] w fun e w'=>∃v,e = .returned v∧OwX 83 2 EI w' w.heap.size v (vecX l).length (vecX l)∧Below w.heap.size w w':=by
 unfold vecX;obtain⟨a,c,b,o,rfl,ha,hc,-⟩:=h;have hlc1:=qH hc;have h0:OwX 83 2 EI w w.heap.size (.slice none 0 0) 0 []:=OwX.nil _ _;clear hc;go_enter Tryz.func43, Tryz.ntmps43
 go_wp2_with fail
 go_loopw [3,4] (fun ov iv wr=>∃(p:Nat),iv = .int .i64 p∧p≤l.length∧OwX 83 2 EI wr w.heap.size ov (simN (fun _=>true) l p).length (simN (fun _=>true) l p)∧Below w.heap.size w wr) (fun _ iv _=>l.length - (intOf iv).toNat)
 case atStart=>exact⟨0,rfl,by omega,h0,Below.refl _ _⟩
 case round=>
  clear h0;obtain⟨p,rfl,hp,hO,hbr⟩:=hrel;obtain⟨oa,oc,hos⟩:=hO.shape;subst hos;by_cases hlt:p < l.length
  ·obtain rfl:=ha (by omega);have cl:=hlc1.out.keep hbr p (by omega);obtain⟨y,hy⟩:=exE (l.getD p 0);rw[hy] at cl;have hln:(p:Int) < (l.length:Int):=(by omega);have hpl:(simN (fun _=>true) l p).length≤1000:=(by rw[simT_len];omega);have hsn:simN (fun _=>true) l (p+1)=simN (fun _=>true) l p ++ [[(p:Int),y]]:=(by rw[simT_next,hy]);obtain⟨S,hS⟩:∃S,simN (fun _=>true) l p=S:=⟨_,rfl⟩;rw[hS] at hsn hO hpl⊢;have hO2:=hO;have hi9:S.length≤1000000000000:=by omega
   have hc9:Hid (∀u∈(#[.int .i64 (p:Int),.int .i64 y]:Array Value).toList,u.oneCell'=true):=fun u hu=>by
    rcases List.mem_cons.1 hu with rfl|hu
    ·rfl
    ·rw[List.mem_singleton.1 hu];rfl
   have hEl:Hid (EI wr [.int .i64 (p:Int),.int .i64 y] [(p:Int),y]):=rfl;replace hsn:=qH hsn;have hsz:=hbr.size;clear hS hO hy;go_wp2_with (at_builtin;refine wpAppX (x:=[(p:Int),y]) elemVx (by decide) (by decide) (EI.stab _) rfl _ _ rfl rfl hO2 rfl rfl rfl hc9.out hEl.out hi9 hsz ?_)
   intro v3 w3 ho3 hg3 hb3 hx3
   have hO3:Hid (OwX 83 2 EI w3 w.heap.size v3 (simN (fun _=>true) l (p+1)).length (simN (fun _=>true) l (p+1))):=by
    show OwX _ _ _ _ _ _ _ _;rw[hsn.out,List.length_append];exact ho3
   have hbr3:=hbr.trans hb3;clear ho3 hO2 hg3 hx3;go_wp2_with fail
   go_roundw
   case rel=>exact⟨p+1,by go_num,hlt,hO3,hbr3⟩
   case measure=>simp[intOf];omega
  ·obtain rfl:p=l.length:=(by omega);have hOh:=qH hO;clear hO;go_wp2;go_ret;exact⟨_,rfl,hOh.out,hbr⟩
def cov1 (s t:List (List Int)):Bool:=decide (s.length < t.length) && subB s t
theorem covB_any (l:List (List (List Int))) (s:List (List Int)):covB l s=l.any (cov1 s):=rfl
theorem refCovered {w:World}{u v:Value}{l:List (List (List Int))}{s:List (List Int)}(h:KSS 2 w u l) (k:KS 2 w v s) :
  Calls Tryz.prog 144 #[u,v] w fun e w'=>e = .returned (.bool (covB l s))∧Below w.heap.size w w':=by
 have hmx : Tryz.prog.follows .mixedOrders=true:=by kernel_rfl
 rw[covB_any];obtain⟨sa,sc,hsh⟩:=k.shape;have kh:=qH k;obtain⟨va,vc,vb,vo,rfl,ha,hc,hsl⟩:=h;have hcl:=qH hc;have h0:Hid ((l.take 0).any (cov1 s)=false):=rfl;subst hsh;clear hc k;go_enter Tryz.func144, Tryz.ntmps144
 go_wp2_with fail
 go_loopw [5] (fun iv wr=>∃i:Nat,iv = .int .i64 i∧i≤l.length∧Hid ((l.take i).any (cov1 s)=false)∧Below w.heap.size w wr) (fun iv _=>l.length - (intOf iv).toNat)
 case atStart=>exact⟨0,rfl,by omega,h0,Below.refl _ _⟩
 case round=>
  clear h0;obtain⟨i,rfl,hi,ht,hbr⟩:=hrel;by_cases hlt:i < l.length
  ·obtain rfl:=ha (by omega);have hii:(i:Int) < (l.length:Int):=(by omega);obtain⟨x,cx,kx⟩:=hcl.out i hlt;replace cx:=cell_kept hbr cx;obtain⟨t,ht0⟩:=exE (l.getD i []);rw[ht0] at kx;have HI:=qH (fun W (hb:Below wr.heap.size wr W)=>refInsideV (kh.out.keep (btt hbr hb)) (kx.keep (btt hbr hb)));obtain⟨xa,xc,rfl⟩:=kx.shape;have hst:=take_any (p:=cov1 s) hlt (d:=[]);rw[ht.out,ht0,Bool.false_or] at hst;have hhit:cov1 s t=true→l.any (cov1 s)=true:=fun e=>any_hit hlt (by rw[ht0];exact e);have HKB:=qH (fun W (hb:Below wr.heap.size wr W)=>cell_kept hb cx);by_cases hl:s.length < t.length
   ·have hd:decide (s.length < t.length)=true:=decide_eq_true hl;have hC:cov1 s t=subB s t:=(by unfold cov1;rw[decide_eq_true hl];rfl);rw[hC] at hst hhit;obtain⟨C,hCe⟩:=exE (subB s t);rw[hCe] at hst hhit HI;replace hst:=qH hst;replace hhit:=qH hhit;have hcx:=HKB.out wr (Below.refl _ _);clear hC hCe kx ht ht0 hl cx;go_wp2_with fail
    refine(HI.out wr (Below.refl _ _)).mono ?_;rintro e w3 ⟨rfl,hb3⟩;cases C
    ·go_wp2_with fail
     go_roundw
     case rel=>exact⟨i+1,by go_num,hlt,hst,btt hbr hb3⟩
     case measure=>simp[intOf];omega
    ·go_wp2_with fail
     go_ret;exact⟨by rw[hhit.out (by first|rfl|trivial)];rfl,btt hbr hb3⟩
   ·have hd:decide (s.length < t.length)=false:=decide_eq_false hl;have hC:cov1 s t=false:=(by unfold cov1;rw[decide_eq_false hl];rfl);rw[hC] at hst;replace hst:=qH hst;clear hC kx ht ht0 hl cx hhit;have hcx:=HKB.out wr (Below.refl _ _);go_wp2_with fail
    go_roundw
    case rel=>exact⟨i+1,by go_num,hlt,hst,hbr⟩
    case measure=>simp[intOf];omega
  ·obtain rfl:i=l.length:=(by omega);have hBf:Hid (l.any (cov1 s)=false):=(by have:=ht.out;rw[List.take_length] at this;exact this);clear ht;go_wp2_with fail
   go_ret;exact⟨by rw[hBf.out];rfl,hbr⟩
end Go.Proofs.YtcnedkkcgdkioaaGreat
