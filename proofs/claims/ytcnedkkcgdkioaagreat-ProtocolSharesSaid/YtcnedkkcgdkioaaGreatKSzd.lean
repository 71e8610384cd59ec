/- Texts of this claim, put together: PL PM PH SQ. -/
import Derived.Test.YtcnedkkcgdkioaaGreatKSzc

set_option maxRecDepth 100000
set_option maxHeartbeats 12800000
namespace Go.Proofs.YtcnedkkcgdkioaaGreat
open Go.RowKit
theorem sortVxNil (p:Option Addr) (cap:Nat) (w:World):Calls Tryz.prog 153 #[.slice p 0 cap,.func (.func 154) #[] #[]] w fun e w'=>e = .returned (.tuple #[])/\w'=w:=
 AnyF.slices_SortFunc_none (P:=Tryz.prog) (ρ:=Tryz.sortVx_ren) { Tryz.sortVx with } p cap (.func (.func 154) #[] #[]) w
theorem compactVxNil (p:Option Addr) (cap:Nat) (w:World):Calls Tryz.prog 155 #[.slice p 0 cap] w fun e w'=>e = .returned (.slice p 0 cap)/\w'=w:=by
 go_enter Tryz.func155, Tryz.ntmps155
 go_wp2;go_ret;exact⟨rfl,rfl⟩
theorem verticesC {w:World}{v:Value}{ss:Jc}(hK:KSS 2 w v ss) (hn:ss.length<=100) (hl:∀s∈ss,0 < s.length/\s.length<=8) :
  Calls Tryz.prog 96 #[v] w fun e w'=>∃u,e = .returned u/\OwX 83 2 EI w' w.heap.size u (ptsX ss).length (ptsX ss)/\Below w.heap.size w w':=by
 have HC:=qH (concatVx hK (by omega) hl)
 have hfl:ss.flatten.length<=800:=by
  have:∀l:Jc,(∀s∈l,s.length<=8)->l.flatten.length<=l.length * 8:=by
   intro l;induction l with
   | nil=>simp
   | cons a r ih=>
    intro h;have:=ih fun s hs=>h s (by simp[hs])
    have:=h a (by simp)
    simp only[List.flatten_cons,List.length_append,List.length_cons];omega
  have:=this ss fun s hs=>(hl s hs).2
  omega
 obtain⟨va,vc,rfl⟩:=hK.shape;obtain⟨M,hM⟩:=exE (ss.flatten);rw[hM] at HC hfl;have hpts:∀m:Jb,m.Perm M->m.Pairwise (fun a b=>¬cmpL b a < 0)->cpG m=ptsX ss:=fun m hp hs=>ptsX_sorted (by rw[hM];exact hp) hs;obtain⟨R,hR⟩:=exE (ptsX ss);rw[hR] at hpts|-;replace hpts:=qH hpts;clear hR hM hK hl;go_enter Tryz.func96, Tryz.ntmps96
 go_wp2_with fail
 refine HC.out.mono ?_;rintro e w1 ⟨u,rfl,hO,hb1⟩;obtain⟨oa,oc,hsh⟩:=hO.shape;subst hsh;rcases Nat.eq_zero_or_pos M.length with h0|h0
 ·have hM0:=List.length_eq_zero_iff.1 h0;subst hM0;have hR0:R = []:=(hpts.out [] (List.Perm.refl _) List.Pairwise.nil).symm;subst hR0;have hOh:=qH hO;clear hO;go_wp2_with fail
  refine(sortVxNil _ _ _).mono ?_;rintro e w2 ⟨rfl,rfl⟩;go_wp2_with fail
  refine(compactVxNil _ _ _).mono ?_;rintro e w3 ⟨rfl,rfl⟩;go_wp2;go_ret;exact⟨_,rfl,hOh.out,hb1⟩
 ·obtain⟨g,cap,he,_⟩:=hO.form h0;injection he with e1 e2 e3;subst e1 e3;have HS:=qH (sortVxs hO (by omega));clear hO;go_wp2_with fail
  refine HS.out.mono ?_;rintro e w2 ⟨rfl,ys,hp,hso,hO2,hb2,-⟩;have hyl:=hp.length_eq;have HK:=qH (compactVx hO2 (by omega));have hcp:=hpts.out ys hp (hso.imp fun h=>by omega);rw[hcp] at HK;clear hO2 hp hso hyl;go_wp2_with fail
  refine HK.out.mono ?_;rintro e w3 ⟨m,rfl,hO3,hb3,-⟩;obtain rfl:=hO3.length;have hO3:=qH hO3;go_wp2;go_ret;exact⟨_,rfl,hO3.out,(hb1.trans hb2).trans hb3⟩
end Go.Proofs.YtcnedkkcgdkioaaGreat
namespace Go.Proofs.YtcnedkkcgdkioaaGreat
open Go.RowKit Go.ChangeMaps Go.MapKept Go.WideMaps
theorem nodup_le {α:Type} [DecidableEq α]:∀ {l m:List α},l.Nodup->(∀x∈l,x∈m)->l.length<=m.length
 | [],_,_,_=>Nat.zero_le _
 | x::r,m,hn,h=>by
  have hx:=h x (by simp);obtain⟨h1,h2⟩:=List.nodup_cons.1 hn;have:=nodup_le (l:=r) (m:=m.erase x) h2 fun y hy=>(List.mem_erase_of_ne (fun e=>h1 (by subst e;exact hy))).2 (h y (by simp[hy]))
  rw[List.length_erase_of_mem hx] at this;have:=List.length_pos_of_mem hx
  simp only[List.length_cons];omega
structure CxG (fs:Jc):Prop where
 vs:∀s∈fs,VS s
 sm:∀s∈fs,SmS s
 asc:AscS fs
 max:∀s∈fs,(fs.any fun t=>pf s t)=false
 len:fs.length<=100
theorem maxX_cxg {l:Jc}(hv:∀s∈l,VS s) (hs:∀s∈l,0 < s.length->SmS s) (hl:l.length<=100):CxG (maxX l) where
 vs s h:=hv s (maxX_mem.1 h).1
 sm s h:=hs s (maxX_mem.1 h).1 (maxX_mem.1 h).2.1
 asc:=maxX_asc hv
 max s h:=by
  rw[<-covB_pf];have h3:=(maxX_mem.1 h).2.2;rw[Bool.eq_false_iff] at h3|-;intro h4;obtain⟨t,h5,h6⟩:=covB_iff.1 h4;exact h3 (covB_iff.2 ⟨t,(maxX_mem.1 h5).1,h6⟩)
 len:=by
  refine Nat.le_trans ?_ hl;have hn:(maxX l).Nodup:=AscS.nodup (maxX_asc hv);exact nodup_le hn fun x hx=>(maxX_mem.1 hx).1
theorem TabV.lookA {w:World}{b B:Nat}{ms:List (List Int × Nat)}{x:List Int}(h:TabV w b B ms) (hx:WfV x) :
  ∃z,OI w B z (occ ms x).length (natI (occ ms x))/\∀W,Below w.heap.size w W->(Instr.lookup 164 (.map (some b)) (vxV x) false).run Tryz.prog W = .ok z W:=by
 obtain⟨m,hM,hWf,hT⟩:=h;have hA:=fun W (hb:Below w.heap.size w W)=>MX.look (vv:=(id:Value->Value)) keyX_vertex umIncT (zRowV W) (hM.keep (hb.block b hM.lt)).mx hWf hx;rcases hA w (Below.refl _ w) with⟨h1,h2,_⟩|⟨v,h1,h2,_⟩
 ·refine⟨.slice none 0 0,?_,fun W hb=>?_⟩
  ·rw[occ_none fun y hy e=>h1 (by rw[<-e];exact hT.has y hy)];exact OI.nil _ _
  ·rcases hA W hb with⟨_,h4,_⟩|⟨v',h3,_,_⟩
   ·exact h4
   ·exact absurd (List.mem_map.2 ⟨_,h3,rfl⟩) h1
 ·obtain⟨i,hi⟩:=List.mem_iff_getElem?.1 h1;refine⟨v,(hT.row i _ hi).2,fun W hb=>?_⟩;rcases hA W hb with⟨h3,_,_⟩|⟨v',h3,h4,_⟩
  ·exact absurd (List.mem_map.2 ⟨_,h1,rfl⟩) h3
  ·obtain⟨j,hj⟩:=List.mem_iff_getElem?.1 h3;have e:=hT.one i j _ _ hi hj rfl;subst e;rw[hi] at hj;injection hj with hj;injection hj with _ hj;subst hj;exact h4
theorem checkCx {w:World}{v:Value}{fs:Jc}(hK:KSSC 2 w v fs) (hG:CxG fs) :
  Calls Tryz.prog 44 #[.agg #[v]] w fun e w'=>e = .returned (.int .i64 0)/\Below w.heap.size w w':=by
 have hmx : Tryz.prog.follows .mixedOrders=true:=by kernel_rfl
 obtain⟨W1,hW1⟩:=exF (w.alloc (.cells #[v] 57));have hb1:Below w.heap.size w W1:=by rw[hW1];exact(Below.refl _ w).alloc (Nat.le_refl _) _
 have kR:W1.heap[w.heap.size]? = some (.cells #[v] 57):=by rw[hW1];exact heap_alloc_new _ _
 have HKS:=qH (fun W (hb:Below w.heap.size w W)=>hK.keep hb);have hfl:=hG.len;have hWf:∀s∈fs,∀x∈s,WfV x:=fun s h x hx=>⟨hG.vs s h x hx,(hG.sm s h).2.2.1 x hx⟩;have hs8:∀s∈fs,0 < s.length/\s.length<=8:=fun s h=>⟨(hG.sm s h).1,(hG.sm s h).2.1⟩;have hHI:=qH (fun W (hb:Below w.heap.size w W)=>incidenceC (hK.keep hb).kss hWf (by omega) (fun s h=>by have:=(hs8 s h).2;omega))
 have hcz:Hid (∀s∈fs,((occ (incN fs fs.length) (s.getD 0 [])).any fun i=>pfG s (fs.getD i []))=false):=fun s h=>by
  rw[covG_eq (fun t ht=>(hG.sm t ht).2.2.2) (hG.sm s h).2.2.2 (hG.sm s h).1];exact hG.max s h
 have hca:Hid (∀i,0 < i->i < fs.length->cmpS (fs.getD (i - 1) []) (fs.getD i []) < 0):=fun i h0 hi=>by
  rw[getD_eq hi,getD_eq (show i - 1 < fs.length by omega)];exact(List.pairwise_iff_getElem.1 hG.asc) (i - 1) i (by omega) hi (by omega)
 have hz:Hid (∀s∈fs,chkS s=0):=fun s h=>chkS_zero (hG.sm s h);obtain⟨a,c,b,off,rfl,ha,hc,-⟩:=hK;have hcl:=qH hc;have hkR:=qH (fun W (hb:Below W1.heap.size W1 W)=>cell_of_one (keptO hb kR));have r0:=hkR.out W1 (Below.refl _ _);have hWf:=qH hWf;have hs8:=qH hs8;have dn:decide ((4096:Int) < (fs.length:Int))=false:=decide_eq_false (by omega);rw[hW1] at r0;clear hc kR hG;go_enter Tryz.func44, Tryz.ntmps44
 go_wp2_with fail
 rw[<-hW1];replace hW1:=qH hW1;go_loopw [16] (fun iv wr=>∃i:Nat,iv = .int .i64 i/\i<=fs.length/\Below W1.heap.size W1 wr) (fun iv _=>fs.length - (intOf iv).toNat)
 case atStart=>exact⟨0,rfl,by omega,Below.refl _ _⟩
 case round=>
  clear r0;obtain⟨i,rfl,hi,hbr⟩:=hrel;have r0:=hkR.out wr hbr;by_cases hlt:i < fs.length
  ·have hii:(i:Int) < (fs.length:Int):=(by omega);obtain rfl:=ha (by omega);obtain⟨u,hu,hku⟩:=hcl.out i hlt;have hb2:=btt hb1 hbr;replace hu:=cell_kept hb2 hu;have hz1:=hz.out (fs.getD i []) (by rw[getD_eq hlt];exact List.getElem_mem hlt);have hca1:=hca.out i;obtain⟨s,hs⟩:=exE (fs.getD i []);rw[hs] at hku hz1 hca1;have hch:=checkS (hku.ks.keep hb2);rw[hz1] at hch;have hKu:=qH (fun W (hb:Below wr.heap.size wr W)=>hku.ks.keep (btt hb2 hb));obtain⟨ua,uc,rfl⟩:=hku.shape;replace hch:=qH hch;replace hs:=qH hs;rcases Nat.eq_zero_or_pos i with h0|h0
   case' inl=>
    subst h0;rw[Nat.add_zero] at hu;clear hz1 hku hca1;go_wp2_with fail
    refine hch.out.mono ?_;rintro e w3 ⟨rfl,hb3⟩;clear r0;have r0:=hkR.out w3 (btt hbr hb3);go_wp2_with fail
    go_roundw
    case rel=>exact⟨1,rfl,by omega,btt hbr hb3⟩
    case measure=>simp[intOf];omega
   case' inr=>
    obtain⟨p,hp,hkp⟩:=hcl.out (i - 1) (by omega);have hneg:=hca1 h0 hlt;obtain⟨t,ht⟩:=exE (fs.getD (i - 1) []);rw[ht] at hkp hneg;have hCC:=fun W (hb:Below wr.heap.size wr W)=>compareC (hkp.ks.keep (btt hb2 hb)) (hKu.out W hb);obtain⟨Z,hZ⟩:=exE (cmpS t s);rw[hZ] at hneg hCC;obtain⟨pa,pc,rfl⟩:=hkp.shape;have hpr:=cell_kept hb2 hp;have hp3:=qH (fun W (hb:Below wr.heap.size wr W)=>cell_kept hb hpr);have hu3:=qH (fun W (hb:Below wr.heap.size wr W)=>cell_kept hb hu);have hpos:decide ((0:Int) < (i:Int))=true:=decide_eq_true (by omega);have hsub:IntKind.i64.wrap ((i:Int) - 1)=((i - 1:Nat):Int):=(by rw[show(i:Int) - 1=((i - 1:Nat):Int) by omega];exact IntWalk.i64_in _ (by omega));have hlt2:((i - 1:Nat):Int) < (fs.length:Int):=(by omega);have hnn:(0:Int)<=((i - 1:Nat):Int):=Int.natCast_nonneg _;have hdz:decide ((0:Int)<=Z)=false:=decide_eq_false (by omega);obtain⟨j,hj⟩:=exE (i - 1);rw[hj] at hsub hlt2 hnn hp3;replace hj:=qH hj;replace hCC:=qH hCC;have hneg:=qH hneg;clear hz1 hku hca1 hkp hp ht hZ hpr;go_wp2_with fail
    refine hch.out.mono ?_;rintro e w3 ⟨rfl,hb3⟩;clear r0;have r0:=hkR.out w3 (btt hbr hb3);have q0:=hp3.out w3 hb3;go_wp2_with fail
    refine(hCC.out w3 hb3).mono ?_;rintro e w4 ⟨rfl,hb4,-⟩;clear r0 q0;have r0:=hkR.out w4 (btt hbr (btt hb3 hb4));go_wp2_with fail
    go_roundw
    case rel=>exact⟨i+1,by go_num,by omega,btt hbr (btt hb3 hb4)⟩
    case measure=>simp[intOf];omega
  ·obtain rfl:i=fs.length:=(by omega);have HI2:=qH (hHI.out wr (btt hb1 hbr));go_wp2_with fail
   refine HI2.out.mono ?_;rintro e w5 ⟨mb,rfl,hT5,hb5⟩;clear r0;have hb15:=btt hbr hb5;have r0:=hkR.out w5 hb15;have HT:=qH (fun W (hb:Below w5.heap.size w5 W)=>hT5.keep hb);clear hT5;have hb05:=btt hb1 hb15;go_wp2_with fail
   obtain⟨wz,hwz⟩:=exF (w5);rw[<-hwz] at HT hb15 hb05|-;clear r0 hwz hb5 hbr;go_loopw [46] (fun iv wr=>∃i:Nat,iv = .int .i64 i/\i<=fs.length/\Below wz.heap.size wz wr) (fun iv _=>fs.length - (intOf iv).toNat)
   case atStart=>exact⟨0,rfl,by omega,Below.refl _ _⟩
   case round=>
    obtain⟨i,rfl,hi,hbr⟩:=hrel;have hb1r:=btt hb15 hbr;have hb0r:=btt hb05 hbr;by_cases hlt:i < fs.length
    ·have hii:(i:Int) < (fs.length:Int):=(by omega);obtain rfl:=ha (by omega);obtain⟨u,hu,hku⟩:=hcl.out i hlt;replace hu:=cell_kept hb0r hu;have hsm:fs.getD i []∈fs:=(by rw[getD_eq hlt];exact List.getElem_mem hlt);have hcz1:=hcz.out _ hsm;obtain⟨s,hs⟩:=exE (fs.getD i []);rw[hs] at hku hsm hcz1;obtain⟨hs0,hs9⟩:=hs8.out s hsm;obtain⟨sa,sc,sb,so,rfl,hsa,hsc,hsl1,hsl2⟩:=id hku;obtain rfl:=hsa hs0;obtain⟨x2,xi⟩:=hsc 0 hs0;have hwf:=hWf.out s hsm (s.getD 0 []) (by rw[getD_eq hs0];exact List.getElem_mem hs0)
     have hOc:(occ (incN fs fs.length) (s.getD 0 [])).length<=1000000:=by
      have h1:=occ_len (incN fs fs.length) (s.getD 0 []);have h2:=incN_len (ss:=fs) (fun s h=>by have:=(hs8.out s h).2;omega) fs.length;omega
     obtain⟨x,hx⟩:=exE (s.getD 0 []);rw[hx] at x2 xi hwf hOc hcz1;obtain⟨p,q,rfl⟩:=two x2;obtain⟨c0,c1⟩:=xi.all2;rw[Nat.zero_mul,Nat.add_zero] at c0 c1;obtain⟨z,hzO,hlk⟩:=(HT.out wr hbr).lookA hwf;obtain⟨za,zc,hzv⟩:=hzO.shape;subst hzv;have hcv:=fun W (hb:Below wr.heap.size wr W)=>coveredC (HKS.out W (btt hb0r hb)) (hku.keep (btt hb0r hb)) (OI.intsE (hzO.keep hb) (by omega)) (fun j hj=>((occ_mem _ _ _ _).1 hj).1);rw[hcz1] at hcv;replace hcv:=qH hcv
     have HB:Hid (∀W,Below wr.heap.size wr W->W.cell? ⟨sb,so,none⟩=some (.int .i64 p)/\W.cell? ⟨sb,so+1,none⟩=some (.int .i64 q)/\W.cell? ⟨w.heap.size,0,none⟩=some (.slice (some ⟨b,off,none⟩) fs.length c)/\(Instr.lookup 164 (.map (some mb)) (.agg #[.int .i64 p,.int .i64 q]) false).run Tryz.prog W = .ok (.slice za (occ (incN fs fs.length) [p,q]).length zc) W):=
      fun W hb=>⟨cell_kept (btt hb0r hb) c0,cell_kept (btt hb0r hb) c1,hkR.out W (btt hb1r hb),hlk W hb⟩
     have hs0i:(0:Int) < (s.length:Int):=(by omega);have r0:=hkR.out wr hb1r;clear hcz1 hsm hku hsc xi x2 c0 c1 hwf hx hs hlk hzO hOc;go_upto_region 16 with fail
     clear r0;refine wp_region_bw hmx (by kernel_rfl) ?_
     repeat (refine WQ.step fun K hK=>?_;go_simp;first|(refine hK _ ?_;clear hK K)|(apply Exists.intro;refine⟨fun wq hC=>?_,hK _ ?_⟩;(·(first|with_reducible rfl|(obtain⟨q0,q1,q2,q3⟩:=HB.out wq hC;go_simp;first|done|with_reducible rfl|with_reducible exact⟨rfl,rfl⟩)));clear hK K))
     (refine WQ.step fun K hK=>?_;go_simp;first|(refine hK _ ?_;clear hK K)|(apply Exists.intro;refine⟨fun wq hC=>?_,hK _ ?_⟩;(·(refine(hcv.out wq hC).mono ?_;rintro e w' ⟨rfl,hb'⟩;exact⟨rfl,btt hC hb'⟩));clear hK K))
     refine WQ.nil ?_;intro w4 hb4;go_wp2_with fail
     go_roundw
     case rel=>exact⟨i+1,by go_num,by omega,btt hbr hb4⟩
     case measure=>simp[intOf];omega
    ·obtain rfl:i=fs.length:=(by omega);go_wp2_with fail
     go_ret;exact⟨rfl,hb0r⟩
theorem verticesCx {w:World}{v:Value}{fs:Jc}(h:CxO w v fs) (hG:CxG fs) :
  Calls Tryz.prog 48 #[v] w fun e w'=>∃u,e = .returned (.tuple #[u,.int .i64 0])/\OwX 83 2 EI w' w.heap.size u (ptsX fs).length (ptsX fs)/\Below w.heap.size w w':=by
 obtain⟨fa,fc,rfl,hO⟩:=h;have hfl:=hG.len;have hs8:∀s∈fs,0 < s.length/\s.length<=8:=fun s h=>⟨(hG.sm s h).1,(hG.sm s h).2.1⟩;have hK:=hO.kssc (by omega) (fun x hx=>by have:=(hs8 x hx).2;omega);obtain⟨W1,hW1⟩:=exF (w.alloc (.cells #[.slice fa fs.length fc] 57));have hb1:Below w.heap.size w W1:=by rw[hW1];exact(Below.refl _ w).alloc (Nat.le_refl _) _
 have kR:W1.heap[w.heap.size]? = some (.cells #[.slice fa fs.length fc] 57):=by rw[hW1];exact heap_alloc_new _ _
 have HC:=qH (checkCx (hK.keep hb1) hG);have HV:=qH (fun W (hb:Below w.heap.size w W)=>verticesC (hK.keep hb).kss hfl hs8);have hkR:=qH (fun W (hb:Below W1.heap.size W1 W)=>cell_of_one (keptO hb kR));have r0:=hkR.out W1 (Below.refl _ _);rw[hW1] at r0;clear kR hK hO hG;go_enter Tryz.func48, Tryz.ntmps48
 go_wp2_with fail
 rw[<-hW1];replace hW1:=qH hW1;refine HC.out.mono ?_;rintro e w2 ⟨rfl,hb2⟩;clear r0;have r0:=hkR.out w2 hb2;have hb12:=btt hb1 hb2;have HV2:=qH (HV.out w2 hb12);go_wp2_with fail
 refine HV2.out.mono ?_;rintro e w3 ⟨u,rfl,hO3,hb3⟩;have hO3:=qH (hO3.base hb12.size);go_wp2;go_ret2
 exact⟨_,rfl,hO3.out,btt hb12 hb3⟩
end Go.Proofs.YtcnedkkcgdkioaaGreat
namespace Go.Proofs.YtcnedkkcgdkioaaGreat
open Go.RowKit
theorem drop_getD {α:Type}{l:List α}{i:Nat}{d:α}(h:i < l.length):l.drop i=l.getD i d::l.drop (i+1):=by
 rw[List.drop_eq_getElem_cons h,getD_eq h]
theorem refCompareV {w:World}{u v:Value}{s t:Jb}(h:KS 2 w u s) (k:KS 2 w v t) :
  Calls Tryz.prog 70 #[u,v] w fun e w'=>e = .returned (.int .i64 (cmpS s t))/\Below w.heap.size w w':=by
 have hmx : Tryz.prog.follows .mixedOrders=true:=by kernel_rfl
 obtain⟨sa,sc,sb,so,rfl,hsa,hsc,hsl⟩:=h;obtain⟨ta,tc,tb,to',rfl,hta,htc,htl⟩:=k;have hcs:=qH hsc;have hct:=qH htc;obtain⟨E,hE⟩:=exE (cmpS s t);rw[hE];have h0:Hid (cmpS (s.drop 0) (t.drop 0)=E):=hE;clear hE hsc htc;go_enter Tryz.func70, Tryz.ntmps70
 go_wp2_with fail
 go_loopw [5] (fun iv wr=>∃i:Nat,iv = .int .i64 i/\i<=s.length/\i<=t.length/\Hid (cmpS (s.drop i) (t.drop i)=E)/\Below w.heap.size w wr) (fun iv _=>s.length - (intOf iv).toNat)
 case atStart=>exact⟨0,rfl,by omega,by omega,h0,Below.refl _ _⟩
 case round=>
  clear h0;obtain⟨i,rfl,hi,hj,hg,hbr⟩:=hrel;by_cases hls:i < s.length
  ·have hii:(i:Int) < (s.length:Int):=(by omega);by_cases hlt:i < t.length
   ·have hji:(i:Int) < (t.length:Int):=(by omega);obtain rfl:=hsa (by omega);obtain rfl:=hta (by omega);obtain⟨x2,xi⟩:=hcs.out i hls;obtain⟨y2,yi⟩:=hct.out i hlt;have hst:=hg.out;rw[drop_getD hls (d:=[]),drop_getD hlt (d:=[])] at hst;obtain⟨x,hx⟩:=exE (s.getD i []);obtain⟨y,hy⟩:=exE (t.getD i []);rw[hx] at x2 xi hst;rw[hy] at y2 yi hst;rw[cmpS_cons (by rw[x2,y2])] at hst;obtain⟨a,b,rfl⟩:=two x2;obtain⟨c,d,rfl⟩:=two y2;obtain⟨c0,c1⟩:=xi.all2;obtain⟨d0,d1⟩:=yi.all2;have HKB:=qH (fun W (hb:Below w.heap.size w W)=>And.intro (cell_kept hb c0) (And.intro (cell_kept hb c1) (And.intro (cell_kept hb d0) (cell_kept hb d1))));have HO:=fun W=>refCmpV a b c d W;obtain⟨Z,hZ⟩:=exE (cmpL [a,b] [c,d]);rw[hZ] at HO hst;replace HO:=qH HO;replace hst:=qH hst;clear hx hy xi yi x2 y2 hg hZ c0 c1 d0 d1;go_wp2_with fail
    refine wp_region_bw hmx (by kernel_rfl) ?_
    repeat (refine WQ.step fun K hK=>?_;go_simp;first|(refine hK _ ?_;clear hK K)|(apply Exists.intro;refine⟨fun wq hC=>?_,hK _ ?_⟩;(·(first|with_reducible rfl|(obtain⟨q0,q1,q2,q3⟩:=HKB.out wq (btt hbr hC);go_simp;first|done|with_reducible rfl|with_reducible exact⟨rfl,rfl⟩)));clear hK K))
    (refine WQ.step fun K hK=>?_;go_simp;first|(refine hK _ ?_;clear hK K)|(apply Exists.intro;refine⟨fun wq hC=>?_,hK _ ?_⟩;(·(refine(HO.out wq).mono ?_;rintro e w' ⟨rfl,hb'⟩;exact⟨rfl,btt hC hb'⟩));clear hK K))
    repeat (refine WQ.step fun K hK=>?_;go_simp;first|(refine hK _ ?_;clear hK K)|(apply Exists.intro;refine⟨fun wq hC=>?_,hK _ ?_⟩;(·(first|with_reducible rfl|(go_simp;first|done|with_reducible rfl|with_reducible exact⟨rfl,rfl⟩)));clear hK K))
    refine WQ.nil ?_;intro w4 hb4;by_cases hz:Z=0
    ·have hg2:Hid (cmpS (s.drop (i+1)) (t.drop (i+1))=E):=(by show _=_;rw[<-hst.out,if_pos hz]);subst hz;go_wp2_with fail
     go_roundw
     case rel=>exact⟨i+1,by go_num,by omega,by omega,hg2,btt hbr hb4⟩
     case measure=>simp[intOf];omega
    ·have hg2:Hid (Z=E):=(by show _=_;rw[<-hst.out,if_neg hz]);have dz:(Z == 0)=false:=(by simpa using hz);replace hz:=qH hz;go_wp2_with fail
     go_ret;exact⟨by rw[hg2.out];rfl,btt hbr hb4⟩
   ·obtain rfl:i=t.length:=by omega
    have hEv:Hid (E=1):=by
     show _=_;obtain⟨x2,_⟩:=hcs.out t.length hls;rw[<-hg.out,List.drop_eq_nil_of_le (Nat.le_refl _),drop_getD hls (d:=[]),cmpS_nr x2]
    have d1:decide ((s.length:Int) < (t.length:Int))=false:=decide_eq_false (by omega);have d2:decide ((t.length:Int) < (s.length:Int))=true:=decide_eq_true (by omega);clear hg;go_wp2_with fail
    go_ret;exact⟨by rw[hEv.out];rfl,hbr⟩
  ·obtain rfl:i=s.length:=(by omega);rcases Nat.lt_or_ge s.length t.length with hlt|hge
   ·have hEv:Hid (E = -1):=by
     show _=_;obtain⟨y2,_⟩:=hct.out s.length hlt;rw[<-hg.out,List.drop_eq_nil_of_le (Nat.le_refl _),drop_getD hlt (d:=[]),cmpS_nl y2]
    have d1:decide ((s.length:Int) < (t.length:Int))=true:=decide_eq_true (by omega);clear hg;go_wp2_with fail
    go_ret;exact⟨by rw[hEv.out];rfl,hbr⟩
   ·have he:s.length=t.length:=by omega
    have hEv:Hid (E=0):=by
     show _=_;rw[<-hg.out,List.drop_eq_nil_of_le (Nat.le_refl _),List.drop_eq_nil_of_le (by omega),cmpS_nil]
    have d1:decide ((s.length:Int) < (t.length:Int))=false:=decide_eq_false (by omega);have d2:decide ((t.length:Int) < (s.length:Int))=false:=decide_eq_false (by omega);replace he:=qH he;clear hg;go_wp2_with fail
    go_ret;exact⟨by rw[hEv.out];rfl,hbr⟩
theorem refSameVx {w:World}{u v:Value}{s t:Jb}(h:KS 2 w u s) (k:KS 2 w v t) (hs:VS s) (ht:VS t) :
  Calls Tryz.prog 26 #[u,v] w fun e w'=>e = .returned (.bool (decide (s=t)))/\Below w.heap.size w w':=by
 have HC:=qH (refCompareV h k);obtain⟨B,hB⟩:∃B,decide (s=t)=B:=⟨_,rfl⟩;rw[hB];have hz:=cmpS_zero hs ht;obtain⟨Z,hZ⟩:=exE (cmpS s t);rw[hZ] at HC hz
 have hBZ:(Z == 0)=B:=by
  rw[<-hB,Bool.eq_iff_iff,decide_eq_true_eq,<-hz];simp
 obtain⟨sa,sc,rfl⟩:=h.shape;obtain⟨ta,tc,rfl⟩:=k.shape;clear hB hz hZ h k;go_enter Tryz.func26, Tryz.ntmps26
 go_wp2_with fail
 refine HC.out.mono ?_;rintro e w3 ⟨rfl,hb3⟩;go_wp2;go_ret;exact⟨rfl,hb3⟩
theorem refSameAll {w:World}{u v:Value}{xs ys:Jc}(hx:KSS 2 w u xs) (hy:KSS 2 w v ys) (hvx:∀s∈xs,VS s) (hvy:∀s∈ys,VS s) :
  Calls Tryz.prog 53 #[u,v] w fun e w'=>e = .returned (.bool (decide (xs=ys)))/\Below w.heap.size w w':=by
 have hmx : Tryz.prog.follows .mixedOrders=true:=by kernel_rfl
 obtain⟨xa,xc,xb,xo,rfl,hxa,hxc,hxl⟩:=hx;obtain⟨ya,yc,yb,yo,rfl,hya,hyc,hyl⟩:=hy;obtain⟨B,hB⟩:∃B,decide (xs=ys)=B:=⟨_,rfl⟩;rw[hB];replace hB:=qH hB;replace hxc:=qH hxc;replace hyc:=qH hyc;by_cases hlen:xs.length=ys.length
 ·rw[<-hlen];replace hlen:=qH hlen;have h0:Hid (xs.take 0=ys.take 0):=rfl;go_enter Tryz.func53, Tryz.ntmps53
  go_wp2_with fail
  go_loopw [5] (fun iv wr=>∃i:Nat,iv = .int .i64 i/\i<=xs.length/\Hid (xs.take i=ys.take i)/\Below w.heap.size w wr) (fun iv _=>xs.length - (intOf iv).toNat)
  case atStart=>exact⟨0,rfl,by omega,h0,Below.refl _ w⟩
  case round=>
   clear h0;obtain⟨i,rfl,hi,ht,hbr⟩:=hrel;by_cases hlt:i < xs.length
   ·obtain rfl:=hxa (by omega);obtain rfl:=hya (by rw[<-hlen.out];omega);have hii:(i:Int) < (xs.length:Int):=(by omega);have hlt':i < ys.length:=(by rw[<-hlen.out];exact hlt);obtain⟨p,cp,kp⟩:=hxc.out i hlt;obtain⟨q,cq,kq⟩:=hyc.out i hlt';replace cp:=cell_kept hbr cp;replace cq:=cell_kept hbr cq;have vx:=hvx (xs.getD i []) (by rw[getD_eq hlt];exact List.getElem_mem hlt);have vy:=hvy (ys.getD i []) (by rw[getD_eq hlt'];exact List.getElem_mem hlt');obtain⟨x,hx⟩:=exE (xs.getD i []);obtain⟨y,hy⟩:=exE (ys.getD i []);rw[hx] at kp vx;rw[hy] at kq vy;have HS:=fun W (hb:Below wr.heap.size wr W)=>refSameVx (kp.keep (btt hbr hb)) (kq.keep (btt hbr hb)) vx vy;obtain⟨pa,pc,rfl⟩:=kp.shape;obtain⟨qa,qc,rfl⟩:=kq.shape;obtain⟨C,hC⟩:∃C,decide (x=y)=C:=⟨_,rfl⟩;rw[hC] at HS;have hyes:C=true->xs.take (i+1)=ys.take (i+1):=fun e=>takes_next ht.out hlt hlt' (by rw[hx,hy];exact of_decide_eq_true (hC.trans e))
    have hno:C=false->B=false:=fun e=>by
     rw[<-hB.out];refine decide_eq_false fun h=>of_decide_eq_false (hC.trans e) ?_;rw[<-hx,<-hy,h]
    replace HS:=qH HS;replace hyes:=qH hyes;replace hno:=qH hno;clear hx hy ht kp kq hC vx vy;go_wp2_with fail
    have HKB:=qH (fun W (hb:Below wr.heap.size wr W)=>And.intro (cell_kept hb cp) (cell_kept hb cq));clear cp cq;refine wp_region_bw hmx (by kernel_rfl) ?_
    repeat (refine WQ.step fun K hK=>?_;go_simp;first|(refine hK _ ?_;clear hK K)|(apply Exists.intro;refine⟨fun wq hC=>?_,hK _ ?_⟩;(·(first|with_reducible rfl|(obtain⟨q0,q1⟩:=HKB.out wq hC;go_simp;first|done|with_reducible rfl|with_reducible exact⟨rfl,rfl⟩)));clear hK K))
    (refine WQ.step fun K hK=>?_;go_simp;first|(refine hK _ ?_;clear hK K)|(apply Exists.intro;refine⟨fun wq hC=>?_,hK _ ?_⟩;(·(refine(HS.out wq hC).mono ?_;rintro e w' ⟨rfl,hb'⟩;exact⟨rfl,btt hC hb'⟩));clear hK K))
    repeat (refine WQ.step fun K hK=>?_;go_simp;first|(refine hK _ ?_;clear hK K)|(apply Exists.intro;refine⟨fun wq hC=>?_,hK _ ?_⟩;(·(first|with_reducible rfl|(go_simp;first|done|with_reducible rfl|with_reducible exact⟨rfl,rfl⟩)));clear hK K))
    refine WQ.nil ?_;intro w3 hb3;cases C
    ·go_wp2_with fail
     go_ret;exact⟨by rw[hno.out (by first|rfl|trivial)];rfl,btt hbr hb3⟩
    ·go_wp2_with fail
     go_roundw
     case rel=>exact⟨i+1,by go_num,hlt,hyes.out (by first|rfl|trivial),btt hbr hb3⟩
     case measure=>simp[intOf];omega
   ·have hBt:Hid (B=true):=by
     show _=_;rw[<-hB.out];exact decide_eq_true (takes_all ht.out (by omega) (by rw[<-hlen.out];omega))
    clear ht;go_wp2;go_ret;exact⟨by rw[hBt.out];rfl,hbr⟩
 ·have hBf:B=false:=by rw[<-hB.out];exact decide_eq_false fun h=>hlen (by rw[h])
  subst hBf;have h1:((xs.length:Int) == (ys.length:Int))=false:=by simp;omega
  go_enter Tryz.func53, Tryz.ntmps53
  go_wp2;go_ret;exact⟨rfl,Below.refl _ w⟩
theorem refSameCx {w:World}{u v:Value}{xs ys:Jc}(hx:KSS 2 w u xs) (hy:KSS 2 w v ys) (hvx:∀s∈xs,VS s) (hvy:∀s∈ys,VS s) :
  Calls Tryz.prog 25 #[.agg #[u],.agg #[v]] w fun e w'=>e = .returned (.bool (decide (xs=ys)))/\Below w.heap.size w w':=by
 obtain⟨W1,hW1⟩:=exF ((w.alloc (.cells #[u] 57)).alloc (.cells #[v] 57));have hb1:Below w.heap.size w W1:=by rw[hW1];exact((Below.refl _ w).alloc (Nat.le_refl _) _).alloc (by simp) _
 have HS:=qH (refSameAll (hx.keep hb1) (hy.keep hb1) hvx hvy);obtain⟨xa,xc,rfl⟩:=hx.shape;obtain⟨ya,yc,rfl⟩:=hy.shape
 have kA:W1.heap[w.heap.size]? = some (.cells #[.slice xa xs.length xc] 57):=by
  rw[hW1];exact(Below.heap_alloc _ _ _ (by simp)).trans (heap_alloc_new w _)
 have kB:W1.heap[w.heap.size+1]? = some (.cells #[.slice ya ys.length yc] 57):=by
  rw[hW1];have:=heap_alloc_new (w.alloc (.cells #[.slice xa xs.length xc] 57)) (.cells #[.slice ya ys.length yc] 57)
  rwa [World.size_alloc] at this
 have z0:=cell_of_one kA;have z1:=cell_of_one kB;rw[hW1] at z0 z1;clear kA kB hx hy;go_enter Tryz.func25, Tryz.ntmps25
 go_wp2_with fail
 rw[<-hW1];replace hW1:=qH hW1;refine HS.out.mono ?_;rintro e w3 ⟨rfl,hb3⟩;go_wp2;go_ret;exact⟨rfl,btt hb1 hb3⟩
theorem OwX.oneK {α:Type}{E:TypeId}{k:Nat}{El:World->List Value->α->Prop}{w:World}{g B:Nat}{cs:List Value}{x:α}(h:w.heap[g]? = some (.cells cs.toArray E)) (hB:B<=g) (hk:cs.length=k) (h1:∀u∈cs,u.oneCell'=true) (hE:El w cs x):OwX E k El w B (.slice (some ⟨g,0,none⟩) 1 1) 1 [x]:=by
 refine⟨cs,⟨by rw[hk,Nat.one_mul],.inr ⟨g,1,cs.toArray,rfl,hB,h,Nat.le_refl _,by decide,by rw[Nat.one_mul];simpa using hk,by rw[Nat.one_mul,<-hk];simp⟩⟩,rfl,h1,fun j y hj=>?_⟩;match j,hj with
 | 0,hj=>
  injection hj with hj;subst hj;rw[Nat.zero_mul,List.drop_zero,<-hk,List.take_length];exact hE
theorem EWd.stb:Stab 77 EWd:=EWd.stab (by decide)
theorem EWd.cell {w:World}{B g n cap:Nat}{us:Jc}(h:OwX 77 1 EWd w B (.slice (some ⟨g,0,none⟩) n cap) n us) {j:Nat}(hj:j < n):∃u,w.cell? ⟨g,j,none⟩=some u/\OwX 148 7 EI w 0 u (us.getD j []).length (us.getD j []):=by
 have hl:=h.length;obtain⟨cs,h1,⟨u,rfl,h2⟩,h3⟩:=OwX.cells h (j:=j) (x:=us.getD j []) (by rw[getD_eq (by omega)];exact List.getElem?_eq_getElem (by omega));refine⟨u,?_,h2⟩;have:=h3 0 u rfl
 rwa [Nat.mul_one,Nat.add_zero] at this
theorem wL_step {ss:Jc}{k s i:Nat}{m:List Int}(h:i < (ss.getD s []).length) (hm:(ss.getD s []).getD i []=m):((ss.getD s []).take (i+1)).flatMap (fun mv=>(wL ss k (mvTo mv)).map (rdOf mv::·))=((ss.getD s []).take i).flatMap (fun mv=>(wL ss k (mvTo mv)).map (rdOf mv::·))++(wL ss k (mvTo m)).map (rdOf m::·):=by
 rw[take_snoc h [],hm,List.flatMap_append];simp
theorem flat_part {α β:Type}{f:α->List β}{l:List α}{i:Nat}:((l.take i).flatMap f).length<=(l.flatMap f).length:=by
 conv=>rhs;rw[<-List.take_append_drop i l,List.flatMap_append,List.length_append]
 omega
structure RestW (w:World) (rv:Value) (L:Jc) (bm:Nat) (cs:Array Value) (ov:Value):Prop where
 row:OwX 77 1 EWd w 0 rv L.length L
 box:w.heap[bm]? = some (.cells cs 178)
 ne:∀b,ov.ownBlock=some b->rv.ownBlock ≠ some b
theorem RestW.keep {w w':World}{rv:Value}{L:Jc}{bm:Nat}{cs:Array Value}{ov:Value}(h:RestW w rv L bm cs ov) (hb:Below w.heap.size w w'):RestW w' rv L bm cs ov:=
 ⟨h.row.keep EWd.stb hb,keptO hb h.box,h.ne⟩
theorem RestW.app {w w':World}{rv:Value}{L O:Jc}{bm B n:Nat}{cs:Array Value}{ov v':Value}(h:RestW w rv L bm cs ov) (ho:OwX 77 1 EWd w B ov n O) (hg:w.grownBy w' ov.ownBlock) (hn:NewAt w ov v') (hx:KeepX 77 w w'):RestW w' rv L bm cs v':=by
 refine⟨h.row.grown EWd.stb hg (fun g hg=>ho.row g hg) ?_,(hx _ _ _ h.box (by decide)).trans h.box,fun b hb hb'=>?_⟩
 ·cases e:rv.ownBlock with
  | none=>exact .inl rfl
  | some b=>exact .inr fun e2=>h.ne b e2.symm e
 ·rcases hn with hn|hn
  ·exact h.ne b (by rw[<-hn];exact hb) hb'
  ·rw[hn] at hb;injection hb with hb;obtain⟨_,q1,_⟩:=h.row;have:=(World.ownsRow.lt q1 b hb').2
   omega
theorem refFromC {n:Int}{ss:Jc}(hM:LeadOK ss):∀(k:Nat),k<=10->∀ {w:World}{v:Value}{s:Nat},AdvV w v n ss->s < ss.length->(wL ss k s).length<=100000->
  Calls Tryz.prog 185 #[v,.int .i64 (s:Int),.int .i64 (k:Int)] w fun e w'=>∃u,e = .returned u/\OwX 77 1 EWd w' w.heap.size u (wL ss k s).length (wL ss k s)/\Below w.heap.size w w':=by
 intro k;induction k with
 | zero=>
  intro _ w v s hA hs _;obtain⟨sv,rfl,hK⟩:=hA;obtain⟨va,vc,rfl⟩:=hK.shape;clear hK;obtain⟨W1,hW1⟩:=exF ((w.alloc (.cells #[.int .i64 n,.slice va ss.length vc] 27)).alloc (.cells #[.slice none 0 0] 77));have hb1:Below w.heap.size w W1:=by rw[hW1];exact((Below.refl _ w).alloc (Nat.le_refl _) _).alloc (by simp) _
  have k1:W1.heap[w.heap.size+1]? = some (.cells #[.slice none 0 0] 77):=by
   rw[hW1];have:=heap_alloc_new (w.alloc (.cells #[.int .i64 n,.slice va ss.length vc] 27)) (.cells #[.slice none 0 0] 77)
   rwa [World.size_alloc] at this
  have hO:Hid (OwX 77 1 EWd W1 w.heap.size (.slice (some ⟨w.heap.size+1,0,none⟩) 1 1) 1 [[]]):=OwX.oneK (cs:=[.slice none 0 0]) k1 (by omega) rfl (fun u hu=>by rw[List.mem_singleton.1 hu];rfl) ⟨_,rfl,OwX.nil _ _⟩;clear k1;go_enter Tryz.func185, Tryz.ntmps185
  go_wp2;rw[<-hW1];go_ret;exact⟨_,rfl,hO.out,hb1⟩
 | succ k ih=>
  intro hk10 w v s hA hs hN;have ihh:=qH (fun(w:World) (v:Value) (s:Nat)=>ih (by omega) (w:=w) (v:=v) (s:=s));clear ih;have hAh:=qH hA;obtain⟨sv,rfl,hK⟩:=hA;obtain⟨W1,hW1⟩:=exF (w.alloc (.cells #[.int .i64 n,sv] 27));have hb1:Below w.heap.size w W1:=by rw[hW1];exact(Below.refl _ w).alloc (Nat.le_refl _) _
  have kA:W1.heap[w.heap.size]? = some (.cells #[.int .i64 n,sv] 27):=by rw[hW1];exact heap_alloc_new _ _
  have HK:=qH (fun W (hb:Below W1.heap.size W1 W)=>And.intro (cell_kept hb (boxL2 kA).1) (cell_kept hb (boxL2 kA).2));obtain⟨va,vc,vb,vo,rfl,hva,hvc,-⟩:=hK;obtain rfl:=hva (by omega);obtain⟨mu,cmu,kmu⟩:=hvc s hs;have hMs:∀m∈ss.getD s [],0<=m.getD 7 0/\m.getD 7 0 < (ss.length:Int):=hM (ss.getD s []) (by rw[getD_eq hs];exact List.getElem_mem hs);have hNw:Hid ((wL ss (k+1) s)=(ss.getD s []).flatMap fun mv=>(wL ss k (mvTo mv)).map (rdOf mv::·)):=rfl;have hst:=fun(i:Nat) (m:List Int)=>wL_step (ss:=ss) (k:=k) (s:=s) (i:=i) (m:=m);obtain⟨ms,hms⟩:=exE (ss.getD s []);simp only[hms] at kmu hMs hNw hst;obtain⟨ma,mc,mb,mo,rfl,hma,hmc,hml⟩:=kmu;have hcl:=qH hmc;have cmh:=qH cmu;replace hst:=qH hst;replace hMs:=qH hMs;have hNl:=hN;rw[hNw.out] at hNl|-;replace hNl:=qH hNl;obtain⟨Z,hZ⟩:∃Z,(ms.flatMap fun mv=>(wL ss k (mvTo mv)).map (rdOf mv::·))=Z:=⟨_,rfl⟩;rw[hZ];replace hZ:=qH hZ;have hkp:IntKind.i64.wrap ((k:Int)+1 - 1)=(k:Int):=by rw[show(k:Int)+1 - 1=(k:Int) by omega];exact IntWalk.i64_in _ (by omega)
  have hk0:((k:Int)+1 == 0)=false:=by simp;omega
  have hs0:(0:Int)<=(s:Int):=by omega
  have hsl:(s:Int) < (ss.length:Int):=by omega
  have h0:Hid (OwX 77 1 EWd W1 W1.heap.size (.slice none 0 0) ((ms.take 0).flatMap fun mv=>(wL ss k (mvTo mv)).map (rdOf mv::·)).length ((ms.take 0).flatMap fun mv=>(wL ss k (mvTo mv)).map (rdOf mv::·))):=OwX.nil _ _;clear kA hva hvc hmc cmu hms hN;rw[show(((k+1:Nat)):Int)=(k:Int)+1 by omega];go_enter Tryz.func185, Tryz.ntmps185
  go_wp2_with fail
  rw[<-hW1];replace hW1:=qH hW1;go_loopw [7,8] (fun ov iv wr=>∃i:Nat,iv = .int .i64 i/\i<=ms.length/\Hid (OwX 77 1 EWd wr W1.heap.size ov ((ms.take i).flatMap fun mv=>(wL ss k (mvTo mv)).map (rdOf mv::·)).length ((ms.take i).flatMap fun mv=>(wL ss k (mvTo mv)).map (rdOf mv::·)))/\Below W1.heap.size W1 wr) (fun _ iv _=>ms.length - (intOf iv).toNat)
  case atStart=>exact⟨0,rfl,by omega,h0,Below.refl _ _⟩
  case round=>
   clear h0;obtain⟨i,rfl,hi,ho,hbr⟩:=hrel;obtain⟨oa,oc,hos⟩:=ho.out.shape;subst hos;have hb2:=btt hb1 hbr;obtain⟨g0,g1⟩:=HK.out wr hbr;have cmu:=cell_kept hb2 cmh.out;by_cases hlt:i < ms.length
   ·obtain rfl:=hma (by omega);have hii:(i:Int) < (ms.length:Int):=(by omega);obtain⟨m8,cm⟩:=hcl.out i hlt;have hstp:=hst.out i _ hlt rfl;have hpart:=flat_part (f:=fun mv=>(wL ss k (mvTo mv)).map (rdOf mv::·)) (l:=ms) (i:=i+1);have hto:=hMs.out (ms.getD i []) (by rw[getD_eq hlt];exact List.getElem_mem hlt);have hNn:=hNl.out;obtain⟨m,hm⟩:=exE (ms.getD i []);rw[hm] at m8 cm hstp hto;rw[hstp] at hpart;obtain⟨P,hP⟩:∃P,((ms.take i).flatMap fun mv=>(wL ss k (mvTo mv)).map (rdOf mv::·))=P:=⟨_,rfl⟩;rw[hP] at ho hstp hpart|-;obtain⟨x0,x1,x2,x3,x4,x5,x6,x7,rfl⟩:=eight m8;obtain⟨c0,c1,c2,c3,c4,c5,c6,c7⟩:=cm.all8;have h7 : [x0,x1,x2,x3,x4,x5,x6,x7].getD 7 0=x7:=rfl;rw[h7] at hto;obtain⟨t,rfl⟩:∃t:Nat,x7=t:=⟨x7.toNat,by omega⟩;have hmt:mvTo [x0,x1,x2,x3,x4,x5,x6,(t:Int)]=t:=(by unfold mvTo;exact Int.toNat_natCast t);have hrd:rdOf [x0,x1,x2,x3,x4,x5,x6,(t:Int)] = [x0,x1,x2,x3,x4,x5,x6]:=rfl;rw[hmt,hrd] at hstp hpart;have htl:t < ss.length:=(by omega);rw[List.length_append,List.length_map] at hpart;have hrl:(wL ss k t).length<=100000:=(by omega);have hPl:P.length+(wL ss k t).length<=100000:=(by omega);replace c0:=cell_kept hb2 c0;replace c1:=cell_kept hb2 c1;replace c2:=cell_kept hb2 c2;replace c3:=cell_kept hb2 c3;replace c4:=cell_kept hb2 c4;replace c5:=cell_kept hb2 c5;replace c6:=cell_kept hb2 c6;replace c7:=cell_kept hb2 c7;obtain⟨W2,hW2⟩:=exF (wr.alloc (.cells #[.int .i64 x0,.int .i64 x1,.int .i64 x2,.int .i64 x3,.int .i64 x4,.int .i64 x5,.int .i64 x6,.int .i64 (t:Int)] 178));have hbw2:Below wr.heap.size wr W2:=(by rw[hW2];exact(Below.refl _ _).alloc (Nat.le_refl _) _);have kM:W2.heap[wr.heap.size]? = some (.cells #[.int .i64 x0,.int .i64 x1,.int .i64 x2,.int .i64 x3,.int .i64 x4,.int .i64 x5,.int .i64 x6,.int .i64 (t:Int)] 178):=(by rw[hW2];exact heap_alloc_new _ _);have hb02:=btt hbr hbw2;have HI:=qH (ihh.out W2 _ t (hAh.out.keep (btt hb1 hb02)) htl hrl);have kMh:=qH kM;obtain⟨r0,r1,r2,r3,r4,r5,r6,r7⟩:=box8' kM;obtain⟨q0,q1⟩:=HK.out W2 hb02;have cmu2:=cell_kept hbw2 cmu;rw[hW2] at q0 q1 r7;have hLk:=qH (wL_each ss k t);obtain⟨L,hL⟩:=exE (wL ss k t);rw[hL] at HI hstp hrl hPl hLk;replace hstp:=qH hstp;clear hP hL cm m8 hto hmt hrd hpart kM r0 r1 r2 r3 r4 r5 r6 h7 cmu2 hm;go_upto_region 8 with fail
    go_wp2_with fail
    rw[<-hW2];replace hW2:=qH hW2;refine HI.out.mono ?_;rintro e w3 ⟨u3,rfl,hR3,hb3⟩;clear g0 g1 q0 q1 r7 cmu c0 c1 c2 c3 c4 c5 c6 c7;obtain⟨ra,rc,hrs⟩:=hR3.shape;subst hrs;have hb03:=btt hb02 hb3
    have ho3:Hid (OwX 77 1 EWd w3 W1.heap.size (.slice oa P.length oc) (P++(L.take 0).map ([x0,x1,x2,x3,x4,x5,x6]::·)).length (P++(L.take 0).map ([x0,x1,x2,x3,x4,x5,x6]::·))):=by
     show OwX _ _ _ _ _ _ _ _;rw[List.take_zero,List.map_nil,List.append_nil];exact ho.out.keep EWd.stb (btt hbw2 hb3)
    have hRf:=fun hn=>hR3.form hn
    have hrest0:Hid (RestW w3 (.slice ra L.length rc) L wr.heap.size #[.int .i64 x0,.int .i64 x1,.int .i64 x2,.int .i64 x3,.int .i64 x4,.int .i64 x5,.int .i64 x6,.int .i64 (t:Int)] (.slice oa P.length oc)):=by
     refine⟨hR3.base (Nat.zero_le _),keptO hb3 kMh.out,fun b hb hb'=>?_⟩;obtain⟨_,q1,_⟩:=hR3;obtain⟨_,q2,_⟩:=ho.out;have l1:=(World.ownsRow.lt q1 b hb').1;have l2:=(World.ownsRow.lt q2 b hb).2;have l3:=hbw2.size;omega
    clear ho hR3;go_wp2_with fail
    obtain⟨bm,hbm⟩:=exE (wr.heap.size);rw[hbm] at hrest0|-;clear hbm;clear hbr hb02 hbw2 hb2 kMh;go_loopw [7,11] (fun ov jv wr=>∃j:Nat,jv = .int .i64 j/\j<=L.length/\Hid (OwX 77 1 EWd wr W1.heap.size ov (P++(L.take j).map ([x0,x1,x2,x3,x4,x5,x6]::·)).length (P++(L.take j).map ([x0,x1,x2,x3,x4,x5,x6]::·)))/\Below W1.heap.size W1 wr/\Hid (RestW wr (.slice ra L.length rc) L bm #[.int .i64 x0,.int .i64 x1,.int .i64 x2,.int .i64 x3,.int .i64 x4,.int .i64 x5,.int .i64 x6,.int .i64 (t:Int)] ov)) (fun _ jv _=>L.length - (intOf jv).toNat)
    case atStart=>exact⟨0,rfl,by omega,ho3,hb03,hrest0⟩
    case round=>
     clear ho3 hrest0;obtain⟨j,rfl,hj,ho,hbr3,hrest⟩:=hrel;obtain⟨oa2,oc2,hos⟩:=ho.out.shape;subst hos;by_cases hlt2:j < L.length
     ·have hjj:(j:Int) < (L.length:Int):=(by omega);obtain⟨g,cap,he,_⟩:=hRf (by omega);injection he with e1 e2 e3;subst e1 e3;clear e2;obtain⟨u,cu,hxO⟩:=EWd.cell hrest.out.row hlt2;have hxk:=hLk.out (L.getD j []) (by rw[getD_eq hlt2];exact List.getElem_mem hlt2)
      have htk:P++(L.take (j+1)).map ([x0,x1,x2,x3,x4,x5,x6]::·)=(P++(L.take j).map ([x0,x1,x2,x3,x4,x5,x6]::·)) ++ [[x0,x1,x2,x3,x4,x5,x6]::L.getD j []]:=by
       rw[take_snoc hlt2 [],List.map_append,List.append_assoc];rfl
      have hOl:(P++(L.take j).map ([x0,x1,x2,x3,x4,x5,x6]::·)).length<=1000000:=by
       rw[List.length_append,List.length_map,List.length_take];omega
      obtain⟨x,hx⟩:=exE (L.getD j []);rw[hx] at hxO hxk htk;obtain⟨O,hO⟩:=exE (P++(L.take j).map ([x0,x1,x2,x3,x4,x5,x6]::·));rw[hO] at ho htk hOl hrest|-;obtain⟨xa,xc,hus⟩:=hxO.shape;subst hus;obtain⟨r0,r1,r2,r3,r4,r5,r6,r7⟩:=box8' hrest.out.box;obtain⟨W5,hW5⟩:=exF (wr.alloc (.cells #[.int .i64 x0,.int .i64 x1,.int .i64 x2,.int .i64 x3,.int .i64 x4,.int .i64 x5,.int .i64 x6] 148));have hb5:Below wr.heap.size wr W5:=(by rw[hW5];exact(Below.refl _ _).alloc (Nat.le_refl _) _);have k5:W5.heap[wr.heap.size]? = some (.cells #[.int .i64 x0,.int .i64 x1,.int .i64 x2,.int .i64 x3,.int .i64 x4,.int .i64 x5,.int .i64 x6] 148):=by rw[hW5];exact heap_alloc_new _ _
      have hw1:OwX 148 7 EI W5 wr.heap.size (.slice (some ⟨wr.heap.size,0,none⟩) 1 1) 1 [[x0,x1,x2,x3,x4,x5,x6]]:=OwX.oneK (cs:=[.int .i64 x0,.int .i64 x1,.int .i64 x2,.int .i64 x3,.int .i64 x4,.int .i64 x5,.int .i64 x6]) k5 (Nat.le_refl _) rfl (fun u hu=>by
       simp only[List.mem_cons,List.not_mem_nil,or_false] at hu;rcases hu with rfl|rfl|rfl|rfl|rfl|rfl|rfl<;>rfl) rfl
      have hsrc:=(hxO.keep (EI.stab _) hb5).src;have hn9:1+x.length<=1000000:=(by omega);replace hxk:=qH hxk;have hs5:=hb5.size;have cu5:=cell_kept hb5 cu;rw[hW5] at hw1 hsrc hs5 cu5;replace htk:=qH htk;clear hO hx hxO k5 cu;go_wp2_with (at_builtin;refine wpList_appXG (ys:=x) elemRd (by decide) (by decide) (EI.stab _) rfl _ _ rfl rfl hw1 rfl hsrc hn9 hs5 ?_)
      intro v6 w6 ho6 hg6 hb6 hx6;rw[<-hW5] at hb6;have hbw6:Below wr.heap.size wr w6:=hb5.trans hb6;obtain⟨pa,pc,hps⟩:=ho6.shape;subst hps;have hEl:Hid (EWd w6 [.slice pa (1+x.length) pc] ([x0,x1,x2,x3,x4,x5,x6]::x)):=⟨_,rfl,by rw[List.length_cons,Nat.add_comm x.length 1];exact ho6.base (Nat.zero_le _)⟩;have hc9:Hid (∀u∈(#[.slice pa (1+x.length) pc]:Array Value).toList,u.oneCell'=true):=fun u hu=>by rw[List.mem_singleton.1 hu];rfl
      have hi9:O.length<=1000000000000:=(by omega);have hbf:=btt hbr3 hbw6;obtain⟨W7,hW7⟩:=exF (w6.alloc (.cells #[.slice pa (1+x.length) pc] 77));have hb7:Below w6.heap.size w6 W7:=(by rw[hW7];exact(Below.refl _ _).alloc (Nat.le_refl _) _);have kN:W7.heap[w6.heap.size]? = some (.cells #[.slice pa (1+x.length) pc] 77):=(by rw[hW7];exact heap_alloc_new _ _);have hbw7:=btt hbw6 hb7;have ho7:=ho.out.keep EWd.stb hbw7;have hre7:=qH (hrest.out.keep hbw7);have hbf7:=btt hbr3 hbw7;have hsz:=hbf7.size;have hEl7:EWd W7 [.slice pa (1+x.length) pc] ([x0,x1,x2,x3,x4,x5,x6]::x):=EWd.stb _ _ _ _ hEl.out (KeepX.below hb7)
      have hnw:∀j u,([.slice pa (1+x.length) pc]:List Value)[j]? = some u->W7.cell? ((⟨w6.heap.size,0,none⟩:Addr).add j)=some u:=fun j u hj=>by
       match j,hj with
       | 0,hj=>
        simp only[List.getElem?_cons_zero,Option.some.injEq] at hj;subst hj;exact cell_of_one kN
       | j+1,hj=>simp at hj
      have ho7h:=qH ho7;rw[hW7] at ho7 hsz hEl7 hnw;replace hW5:=qH hW5;clear kN;clear ho6 hx6 hg6 hw1 hsrc cu5 hs5;go_wp2_with (at_builtin;refine wpList_appX (x:=[x0,x1,x2,x3,x4,x5,x6]::x) elemRs (by decide) (by decide) EWd.stb rfl _ _ rfl rfl ho7 _ _ rfl rfl hnw hc9.out hEl7 hi9 hsz ?_)
      intro v7 w7 ho8 hg7 hnew hb8 hx7;rw[<-hW7] at hg7 hnew hb8 hx7;have hrest8:Hid (RestW w7 (.slice (some ⟨g,0,none⟩) L.length rc) L bm #[.int .i64 x0,.int .i64 x1,.int .i64 x2,.int .i64 x3,.int .i64 x4,.int .i64 x5,.int .i64 x6,.int .i64 (t:Int)] v7):=hre7.out.app ho7h.out hg7 hnew hx7;replace hW7:=qH hW7
      have hO8:Hid (OwX 77 1 EWd w7 W1.heap.size v7 (P++(L.take (j+1)).map ([x0,x1,x2,x3,x4,x5,x6]::·)).length (P++(L.take (j+1)).map ([x0,x1,x2,x3,x4,x5,x6]::·))):=by
       show OwX _ _ _ _ _ _ _ _;rw[htk.out,List.length_append];exact ho8
      have hbr7:=hbf7.trans hb8;clear ho8 ho7 hx7 hg7 hnew hnw hEl7 ho7h hre7;go_wp2_with fail
      go_roundw
      case rel=>exact⟨j+1,by go_num,hlt2,hO8,hbr7,hrest8⟩
      case measure=>simp[intOf];omega
     ·obtain rfl:j=L.length:=(by omega);have ho5:=ho.out;rw[List.take_length,<-hstp.out] at ho5;have hol:(P++L.map ([x0,x1,x2,x3,x4,x5,x6]::·)).length=((ms.take (i+1)).flatMap fun mv=>(wL ss k (mvTo mv)).map (rdOf mv::·)).length:=(by rw[hstp.out]);rw[List.take_length,hol];replace ho5:=qH ho5;clear ho hol;obtain⟨Y,hY⟩:∃Y,((ms.take (i+1)).flatMap fun mv=>(wL ss k (mvTo mv)).map (rdOf mv::·))=Y:=⟨_,rfl⟩;rw[hY] at ho5|-;replace hY:=qH hY;go_wp2_with fail
      go_roundw
      case rel=>exact⟨i+1,by go_num,hlt,by rw[hY.out];exact ho5,hbr3⟩
      case measure=>simp[intOf];omega
   ·obtain rfl:i=ms.length:=(by omega);have ho5:=ho.out;rw[List.take_length,hZ.out] at ho5;rw[List.take_length,hZ.out];have ho6:=qH (ho5.base hb1.size);clear ho ho5;go_wp2_with fail
    go_ret;exact⟨_,rfl,ho6.out,hb2⟩
end Go.Proofs.YtcnedkkcgdkioaaGreat
