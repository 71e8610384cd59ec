/- Texts of this claim, put together: OG OH OJ OK. -/
import Derived.Test.YtcnedkkcgdkioaaGreatKSx

set_option maxRecDepth 100000
set_option maxHeartbeats 12800000
namespace Go.Proofs.YtcnedkkcgdkioaaGreat
open Go.RowKit Go.ChangeMaps Go.MapKept Go.WideMaps
theorem below_setBlock {B:Nat}{w W:World}(h:Below B w W) {b:Nat}(hb:B<=b) (o:Obj):Below B w (setBlock W b o):=
 ⟨h.os,h.tape,h.output,by simpa [Go.ChangeMaps.setBlock] using h.size,fun k hk=>(setBlock_keep o (by omega)).trans (h.block k hk)⟩
def incN (ss:Jc) (i:Nat):List (List Int × Nat):=(List.range i).flatMap fun j=>(ss.getD j []).map fun x=>(x,j)
theorem incN_succ (ss:Jc) (i:Nat):incN ss (i+1)=incN ss i++(ss.getD i []).map fun x=>(x,i):=by
 unfold incN;rw[List.range_succ,List.flatMap_append];simp
theorem incN_len {ss:Jc}(h:∀s∈ss,s.length<=1000):∀i,(incN ss i).length<=i * 1000
 | 0=>by simp[incN]
 | i+1=>by
  rw[incN_succ,List.length_append,List.length_map];have:=incN_len h i
  have h2:(ss.getD i []).length<=1000:=by
   by_cases hi:i < ss.length
   ·rw[getD_eq hi];exact h _ (List.getElem_mem hi)
   ·rw[List.getD_eq_getElem?_getD,List.getElem?_eq_none (by omega)];decide
  omega
theorem occ_len (ms:List (List Int × Nat)) (r:List Int):(occ ms r).length<=ms.length:=by
 unfold occ;rw[List.length_map];exact List.length_filter_le _ _
theorem incidenceC {w:World}{v:Value}{ss:Jc}(hK:KSS 2 w v ss) (hW:∀s∈ss,∀x∈s,WfV x) (hn:ss.length<=100000) (hl:∀s∈ss,s.length<=1000) :
  Calls Tryz.prog 93 #[v] w fun e w'=>∃b,e = .returned (.map (some b))/\TabV w' b w.heap.size (incN ss ss.length)/\Below w.heap.size w w':=by
 obtain⟨va,vc,vb,vo,rfl,ha,hc,-⟩:=hK;obtain⟨n,hnn⟩:=exE (ss.length);have hcl:=qH (fun j (hj:j < n)=>hc j (by omega));have hln:=qH (incN_len hl)
 have hWf:=qH (fun i (hi:i < n) j (hj:j < (ss.getD i []).length)=>(show WfV ((ss.getD i []).getD j []) by
  rw[getD_eq hj];refine hW _ ?_ _ (List.getElem_mem hj);rw[getD_eq (by omega)];exact List.getElem_mem _))
 have hl2:=qH (fun i (hi:i < n)=>(show(ss.getD i []).length<=1000 by rw[getD_eq (by omega)];exact hl _ (List.getElem_mem _)));have hsu:=qH (incN_succ ss);rw[hnn] at ha hn|-;clear hc hl hW hnn;have hm0:TabV (w.alloc (.map #[] 0)) w.heap.size w.heap.size (incN ss 0):=⟨[],MS.made w,by simp,RowV.nil _ _⟩;have hba:Below w.heap.size w (w.alloc (.map #[] 0)):=(Below.refl _ w).alloc (Nat.le_refl _) _;replace hm0:=qH hm0;have hmm:=@run_makeMap Tryz.prog;go_enter Tryz.func93, Tryz.ntmps93
 go_wp2_with fail
 go_loopw [11] (fun iv wr=>∃i:Nat,iv = .int .i64 i/\i<=n/\Hid (TabV wr w.heap.size w.heap.size (incN ss i))/\Below w.heap.size w wr) (fun iv _=>n - (intOf iv).toNat)
 case atStart=>exact⟨0,rfl,by omega,hm0,hba⟩
 case round=>
  clear hm0 hba;obtain⟨i,rfl,hi,hT,hbr⟩:=hrel;by_cases hlt:i < n
  ·have hii:(i:Int) < (n:Int):=(by omega);obtain rfl:=ha (by omega);obtain⟨u,hu,hku⟩:=hcl.out i hlt;replace hu:=cell_kept hbr hu;obtain⟨s,hs⟩:=exE (ss.getD i []);have hWi:=hWf.out i hlt;have hli:=hl2.out i hlt;have hsi:=hsu.out i
   have hT0:Hid (TabV wr w.heap.size w.heap.size (incN ss i++(s.take 0).map fun x=>(x,i))):=by
    show TabV _ _ _ _;simpa using hT.out
   rw[hs] at hku hWi hli hsi;have hlb:=hln.out i;obtain⟨F,hF⟩:=exE (incN ss i);rw[hF] at hT0 hsi hlb;have hsi:=qH hsi;have hWi:=qH hWi;replace hF:=qH hF;replace hs:=qH hs;have hlb2:F.length<=100000000:=(by omega);clear hT hlb;obtain⟨sa,sc,sb,so,rfl,hsa,hsc,-⟩:=hku;replace hsc:=qH hsc;obtain⟨wo,hwo⟩:=exF (wr);subst hwo;go_wp2_with fail
   go_loopw [18] (fun jv wr=>∃j:Nat,jv = .int .i64 j/\j<=s.length/\Hid (TabV wr w.heap.size w.heap.size (F++(s.take j).map fun x=>(x,i)))/\Below w.heap.size w wr) (fun jv _=>s.length - (intOf jv).toNat)
   case atStart=>exact⟨0,rfl,by omega,hT0,hbr⟩
   case round=>
    clear hT0 hu hbr;obtain⟨j,rfl,hj,hT,hbr⟩:=hrel;by_cases hlj:j < s.length
    ·have hjj:(j:Int) < (s.length:Int):=(by omega);obtain rfl:=hsa (by omega);obtain⟨x2,xi⟩:=hsc.out j hlj;have hwf:=hWi.out j hlj;have hsn:=take_snoc hlj ([]:List Int);obtain⟨x,hx⟩:=exE (s.getD j []);rw[hx] at x2 xi hwf hsn;obtain⟨a,b,rfl⟩:=two x2;obtain⟨c0,c1⟩:=xi.all2;replace c0:=cell_kept hbr c0;replace c1:=cell_kept hbr c1;replace hsn:=qH hsn;replace hx:=qH hx;clear x2 xi;obtain⟨Wb,hWb⟩:=exF (wr.alloc (.cells #[.int .i64 a,.int .i64 b] 83));have hbb:Below wr.heap.size wr Wb:=(by rw[hWb];exact(Below.refl _ _).alloc (Nat.le_refl _) _);have kM:Wb.heap[wr.heap.size]? = some (.cells #[.int .i64 a,.int .i64 b] 83):=(by rw[hWb];exact heap_alloc_new _ _);obtain⟨W4,hW4⟩:=exF (Wb.alloc (.cells #[.int .i64 (i:Int)] 3));have hz4:W4.heap.size=Wb.heap.size+1:=(by rw[hW4];simp);have hzb:Wb.heap.size=wr.heap.size+1:=(by rw[hWb];simp);have hb4:Below Wb.heap.size Wb W4:=(by rw[hW4];exact(Below.refl _ _).alloc (Nat.le_refl _) _);have hb4r:=btt hbb hb4;have kT4:W4.heap[Wb.heap.size]? = some (.cells #[.int .i64 (i:Int)] 3):=(by rw[hW4];exact heap_alloc_new _ _);have hbs:=hbr.size;obtain⟨z0,z1⟩:=boxL2 kM;obtain⟨P,hP⟩:∃P,F++(s.take j).map (fun x=>(x,i))=P:=⟨_,rfl⟩;rw[hP] at hT;obtain⟨v0,st,es1,k1,hrun,⟨es0,cl0,hm4⟩,hOI,hnext⟩:=(hT.out.keep hb4r).entry (a:=([a,b],i)) hwf
     have hPl:P.length<=200000000:=by
      rw[<-hP,List.length_append,List.length_map,List.length_take];omega
     have hl0:=occ_len P [a,b];obtain⟨W5,hW5⟩:=exF (setBlock W4 w.heap.size (.map es1 k1));have hx5:∀E,KeepX E W4 W5:=fun E=>by rw[hW5];exact keepX_map hm4 _
     have hz5:W5.heap.size=W4.heap.size:=(by rw[hW5];simp[setBlock]);rw[<-hW5] at hrun hOI hnext;obtain⟨l0,hl0e⟩:=exE ((occ P [a,b]).length);obtain⟨X0,hX0e⟩:=exE (natI (occ P [a,b]));have hOI:OI W5 w.heap.size v0 (occ P [a,b]).length (natI (occ P [a,b])):=hOI;have hnext:∀(w2:World) (v':Value),W5.grownBy w2 v0.ownBlock->NewAt W5 v0 v'->OI w2 w.heap.size v' ((occ P [a,b]).length+1) (natI (occ P [a,b]) ++ [(i:Int)])->∃es2 c2,(Instr.entryStore 164 (.map (some w.heap.size)) (goInt st) v').run Tryz.prog w2 = .ok () (setBlock w2 w.heap.size (.map es2 c2))/\(∃es c,w2.heap[w.heap.size]? = some (.map es c))/\TabV (setBlock w2 w.heap.size (.map es2 c2)) w.heap.size w.heap.size (P ++ [([a,b],i)]):=hnext;rw[hl0e] at hOI hnext hl0;rw[hX0e] at hOI hnext;replace hl0e:=qH hl0e;replace hX0e:=qH hX0e;have hrun:(Instr.mapEntry 164 (.map (some w.heap.size)) (.agg #[.int .i64 a,.int .i64 b])).run Tryz.prog W4 = .ok (.tuple #[v0,.int .i64 (st:Int)]) W5:=hrun;have kT5:=(hx5 83).size kT4 (by decide)
     have hnews:∀(i':Nat) (u:Value),[Value.int .i64 (i:Int)][i']? = some u->W5.cell? ((⟨Wb.heap.size,0,none⟩:Addr).add i')=some u:=fun i' u hiu=>by
      have hi0:i'=0:=(by have:=(List.getElem?_eq_some_iff.1 hiu).1;simpa using this);subst hi0;simp only[List.getElem?_cons_zero,Option.some.injEq] at hiu;subst hiu;exact box_cell (j:=0) kT5 rfl
     have hc1:∀u ∈ [Value.int .i64 (i:Int)],u.oneCell'=true:=fun u hu=>by rw[List.mem_singleton.1 hu];rfl
     have hOI5:=hOI.owx;have hl9:l0<=1000000000000:=(by omega);have hB5:w.heap.size<=W5.heap.size:=(by omega);have hb5:Below w.heap.size w W5:=(by rw[hW5];exact below_setBlock (btt hbr hb4r) (Nat.le_refl _) _);rw[hW4] at hrun;rw[hWb] at z0 z1 hrun;have hWbs:=qH hzb;replace hnews:=qH hnews;replace hc1:=qH hc1;replace hW4:=qH hW4;replace hW5:=qH hW5;replace hz4:=qH hz4;replace hz5:=qH hz5;replace hP:=qH hP;rw[hzb] at hnews;clear kM kT4 kT5 hOI hb4 hm4 hT hb4r hzb;go_wp2_with (at_builtin;refine wpList_appX (cs:=[.int .i64 (i:Int)]) (x:=(i:Int)) elemInt1 (by decide) (by decide) (E1I.stab _) rfl _ _ rfl rfl hOI5 ⟨wr.heap.size+1,0,none⟩ 1 rfl rfl hnews.out hc1.out rfl hl9 hB5 ?_)
     intro v6 w6 ho6 hg6 hn6 hb6 hx6;obtain⟨es2,k2,hst,⟨es6,cl6,hm6⟩,hT7⟩:=hnext w6 v6 hg6 hn6 ho6.oi;obtain⟨W7,hW7⟩:=exF (setBlock w6 w.heap.size (.map es2 k2));rw[<-hW7] at hst hT7;have hst:(Instr.entryStore 164 (.map (some w.heap.size)) (.int .i64 (st:Int)) v6).run Tryz.prog w6 = .ok () W7:=hst;have hb7:Below w.heap.size w W7:=by rw[hW7];exact below_setBlock (hb5.trans hb6) (Nat.le_refl _) _
     have hT8:Hid (TabV W7 w.heap.size w.heap.size (F++(s.take (j+1)).map fun x=>(x,i))):=by
      show TabV _ _ _ _;rw[hsn.out,List.map_append,<-List.append_assoc,hP.out];exact hT7
     replace hW7:=qH hW7;clear hnext ho6 hg6 hn6 hrun hm6 hT7;go_wp2;go_roundw
     case rel=>exact⟨j+1,by go_num,hlj,hT8,hb7⟩
     case measure=>simp[intOf];omega
    ·obtain rfl:j=s.length:=by omega
     have hT2:Hid (TabV wr w.heap.size w.heap.size (incN ss (i+1))):=by
      show TabV _ _ _ _;have:=hT.out
      rw[List.take_length] at this;rw[hsi.out];exact this
     clear hT;go_wp2;go_roundw
     case rel=>exact⟨i+1,by go_num,hlt,hT2,hbr⟩
     case measure=>simp[intOf];omega
  ·obtain rfl:i=n:=(by omega);go_wp2;go_ret;exact⟨_,rfl,hT.out,hbr⟩
end Go.Proofs.YtcnedkkcgdkioaaGreat
namespace Go.Proofs.YtcnedkkcgdkioaaGreat
open Go.RowKit
def pfG (s t:Jb):Bool:=decide (s.length < t.length) && faceG s t
theorem covFn {w:World}{b3 b5 i:Nat}{u v:Value}{ss:Jc}{s:Jb}(c3:w.cell? ⟨b3,0,none⟩=some u) (c5:w.cell? ⟨b5,0,none⟩=some v) (hK:KSSC 2 w u ss) (hs:KSC 2 w v s) (hi:i < ss.length) :
  Calls Tryz.prog 150 #[.int .i64 (i:Int),.pointer (some ⟨b3,0,none⟩),.pointer (some ⟨b5,0,none⟩)] w fun e w'=>e = .returned (.bool (pfG s (ss.getD i [])))/\Below w.heap.size w w':=by
 have hmx : Tryz.prog.follows .mixedOrders=true:=by kernel_rfl
 obtain⟨ua,uc,ub,uo,rfl,hua,hcl,-⟩:=hK;obtain rfl:=hua (by omega);obtain⟨x,hx,hkx⟩:=hcl i hi;obtain⟨t,ht⟩:=exE (ss.getD i []);rw[ht] at hkx|-;obtain⟨n,hn⟩:=exE (ss.length);rw[hn] at c3 hi;have hii:(i:Int) < (n:Int):=by omega
 have HF:=qH (fun W (hb:Below w.heap.size w W)=>faceC (hs.ks.keep hb) (hkx.keep hb));obtain⟨sa,sc,rfl⟩:=hs.shape;obtain⟨ta,tc,rfl⟩:=hkx.shape;have HK:=qH (fun W (hb:Below w.heap.size w W)=>And.intro (cell_kept hb c3) (And.intro (cell_kept hb c5) (cell_kept hb hx)));obtain⟨l1,hl1⟩:=exE (s.length);obtain⟨l2,hl2⟩:=exE (t.length);unfold pfG;rw[hl1,hl2];rw[hl1] at c5;simp only[hl1,hl2] at HF HK;obtain⟨F,hF⟩:=exE (faceG s t);rw[hF];simp only[hF] at HF;clear hF ht hn hkx hs hcl c3 c5 hx hl1 hl2;by_cases hlt:l1 < l2
 ·have hd:decide ((l1:Int) < (l2:Int))=true:=decide_eq_true (by omega);rw[decide_eq_true hlt,Bool.true_and];go_enter Tryz.func150, Tryz.ntmps150
  go_wp2_with fail
  refine wp_region_bw hmx (by kernel_rfl) ?_
  repeat (refine WQ.step fun K hK=>?_;go_simp;first|(refine hK _ ?_;clear hK K)|(apply Exists.intro;refine⟨fun wq hC=>?_,hK _ ?_⟩;(·(first|with_reducible rfl|(obtain⟨g3,g5,gx⟩:=HK.out wq hC;go_simp;first|done|with_reducible rfl|with_reducible exact⟨rfl,rfl⟩)));clear hK K))
  (refine WQ.step fun K hK=>?_;go_simp;first|(refine hK _ ?_;clear hK K)|(apply Exists.intro;refine⟨fun wq hC=>?_,hK _ ?_⟩;(·(refine(HF.out wq hC).mono ?_;rintro e w' ⟨rfl,hb'⟩;exact⟨rfl,btt hC hb'⟩));clear hK K))
  repeat (refine WQ.step fun K hK=>?_;go_simp;first|(refine hK _ ?_;clear hK K)|(apply Exists.intro;refine⟨fun wq hC=>?_,hK _ ?_⟩;(·(first|with_reducible rfl|(go_simp;first|done|with_reducible rfl|with_reducible exact⟨rfl,rfl⟩)));clear hK K))
  refine WQ.nil ?_;intro w4 hb4;go_wp2;go_ret;exact⟨rfl,hb4⟩
 ·have hd:decide ((l1:Int) < (l2:Int))=false:=decide_eq_false (by omega);rw[decide_eq_false hlt,Bool.false_and];go_enter Tryz.func150, Tryz.ntmps150
  go_wp2_with fail
  refine wp_region_bw hmx (by kernel_rfl) ?_
  repeat (refine WQ.step fun K hK=>?_;go_simp;first|(refine hK _ ?_;clear hK K)|(apply Exists.intro;refine⟨fun wq hC=>?_,hK _ ?_⟩;(·(first|with_reducible rfl|(obtain⟨g3,g5,gx⟩:=HK.out wq hC;go_simp;first|done|with_reducible rfl|with_reducible exact⟨rfl,rfl⟩)));clear hK K))
  refine WQ.nil ?_;intro w4 hb4;go_wp2;go_ret;exact⟨rfl,hb4⟩
theorem indexCov {w:World}{b3 b5:Nat}{u v z:Value}{ss:Jc}{s:Jb}{L:List Nat}(c3:w.cell? ⟨b3,0,none⟩=some u) (c5:w.cell? ⟨b5,0,none⟩=some v) (hK:KSSC 2 w u ss) (hs:KSC 2 w v s) (hA:Ints w z (natI L)) (hL:∀i∈L,i < ss.length) :
  Calls Tryz.prog 201 #[z,.func (.func 150) #[] #[.pointer (some ⟨b3,0,none⟩),.pointer (some ⟨b5,0,none⟩)]] w fun e w'=>∃k:Int,e = .returned (.int .i64 k)/\decide (0<=k)=L.any (fun i=>pfG s (ss.getD i []))/\Below w.heap.size w w':=by
 have HF:=qH (fun W (hb:Below w.heap.size w W) i (hi:i∈L)=>covFn (cell_kept hb c3) (cell_kept hb c5) (hK.keep hb) (hs.keep hb) (hL i hi));obtain⟨za,zc,zb,zo,rfl,hza,hzc,hzl⟩:=hA;obtain⟨E,hE⟩:∃E,L.any (fun i=>pfG s (ss.getD i []))=E:=⟨_,rfl⟩;rw[hE];have hnl:(natI L).length=L.length:=by unfold natI;rw[List.length_map]
 obtain⟨n,hn⟩:=exE (L.length)
 have hcell:Hid (∀j,j < n->w.cell? ⟨zb,zo+j,none⟩=some (.int .i64 ((L.getD j 0:Nat):Int))):=fun j hj=>by
  have:=hzc j (by rw[hnl,hn];exact hj)
  rw[this,getD_eq (by rw[hnl,hn];exact hj),getD_eq (by rw[hn];exact hj)];simp[natI]
 have hyes:Hid (∀j,j < n->pfG s (ss.getD (L.getD j 0) [])=true->E=true):=fun j hj h=>by
  rw[<-hE,List.any_eq_true];exact⟨L.getD j 0,by rw[getD_eq (by rw[hn];exact hj)];exact List.getElem_mem _,h⟩
 have hno:Hid ((∀j,j < n->pfG s (ss.getD (L.getD j 0) [])=false)->E=false):=fun h=>by
  rw[<-hE,List.any_eq_false];intro x hx;obtain⟨j,hj,rfl⟩:=List.getElem_of_mem hx;have:=h j (by rw[<-hn];exact hj)
  rw[getD_eq hj] at this;intro h2;rw[this] at h2;cases h2
 have hmem:Hid (∀j,j < n->L.getD j 0∈L):=fun j hj=>by rw[getD_eq (by rw[hn];exact hj)];exact List.getElem_mem _
 rw[hnl,hn] at hza hzl|-;replace hE:=qH hE;clear hn hnl hzc c3 c5 hK hs hL;go_enter Tryz.func201, Tryz.ntmps201
 go_wp2_with fail
 go_loopw [8] (fun iv wr=>∃i:Nat,iv = .int .i64 i/\i<=n/\Hid (∀j,j < i->pfG s (ss.getD (L.getD j 0) [])=false)/\Below w.heap.size w wr) (fun iv _=>n - (intOf iv).toNat)
 case atStart=>exact⟨0,rfl,by omega,fun j hj=>absurd hj (Nat.not_lt_zero _),Below.refl _ w⟩
 case round=>
  obtain⟨i,rfl,hi,hg,hbr⟩:=hrel;by_cases hlt:i < n
  ·have hii:(i:Int) < (n:Int):=(by omega);obtain rfl:=hza (by omega);have c0:=cell_kept hbr (hcell.out i hlt);have hf:=HF.out wr hbr _ (hmem.out i hlt);have hy:=hyes.out i hlt;obtain⟨q,hq⟩:=exE (L.getD i 0);rw[hq] at c0 hf hy;obtain⟨C,hC⟩:=exE (pfG s (ss.getD q []));rw[hC] at hf hy;replace hf:=qH hf;have hge:decide ((0:Int)<=(i:Int))=true:=decide_eq_true (by omega);cases C
   ·have hg2:Hid (∀j,j < i+1->pfG s (ss.getD (L.getD j 0) [])=false):=fun j hj=>by
     rcases Nat.lt_or_ge j i with h|h
     ·exact hg.out j h
     ·obtain rfl:j=i:=(by omega);rw[hq];exact hC
    clear hq hC hy hg;go_wp2_with fail
    refine hf.out.mono ?_;rintro e w3 ⟨rfl,hb3⟩;go_wp2_with fail
    go_roundw
    case rel=>exact⟨i+1,by go_num,by omega,hg2,btt hbr hb3⟩
    case measure=>simp[intOf];omega
   ·have hEt:=qH (hy rfl);clear hq hC hy hg;go_wp2_with fail
    refine hf.out.mono ?_;rintro e w3 ⟨rfl,hb3⟩;go_wp2;go_ret;exact⟨_,rfl,by rw[hEt.out];exact hge,btt hbr hb3⟩
  ·obtain rfl:i=n:=(by omega);have hEf:=qH (hno.out hg.out);clear hg;go_wp2;go_ret;exact⟨_,rfl,by rw[hEf.out];rfl,hbr⟩
theorem containsCov {w:World}{b3 b5:Nat}{u v z:Value}{ss:Jc}{s:Jb}{L:List Nat}(c3:w.cell? ⟨b3,0,none⟩=some u) (c5:w.cell? ⟨b5,0,none⟩=some v) (hK:KSSC 2 w u ss) (hs:KSC 2 w v s) (hA:Ints w z (natI L)) (hL:∀i∈L,i < ss.length) :
  Calls Tryz.prog 149 #[z,.func (.func 150) #[] #[.pointer (some ⟨b3,0,none⟩),.pointer (some ⟨b5,0,none⟩)]] w fun e w'=>e = .returned (.bool (L.any fun i=>pfG s (ss.getD i [])))/\Below w.heap.size w w':=by
 have HI:=qH (indexCov c3 c5 hK hs hA hL);obtain⟨za,zc,_,_,rfl,_⟩:=hA;obtain⟨E,hE⟩:∃E,L.any (fun i=>pfG s (ss.getD i []))=E:=⟨_,rfl⟩;rw[hE] at HI|-;obtain⟨n3,hn3⟩:=exE ((natI L).length);rw[hn3] at HI|-;clear hE hn3 c3 c5 hK hs hL;go_enter Tryz.func149, Tryz.ntmps149
 go_wp2_with fail
 refine HI.out.mono ?_;rintro e w3 ⟨k,rfl,hk,hb3⟩;go_wp2;go_ret;exact⟨rfl,hb3⟩
theorem coveredC {w:World}{u v z:Value}{ss:Jc}{s:Jb}{L:List Nat}(hK:KSSC 2 w u ss) (hs:KSC 2 w v s) (hA:Ints w z (natI L)) (hL:∀i∈L,i < ss.length) :
  Calls Tryz.prog 94 #[u,z,v] w fun e w'=>e = .returned (.bool (L.any fun i=>pfG s (ss.getD i [])))/\Below w.heap.size w w':=by
 obtain⟨ua,uc,hu⟩:=hK.shape;obtain⟨va,vc,hv⟩:=hs.shape;subst hu hv;obtain⟨W1,hW1⟩:=exF ((w.alloc (.cells #[.slice ua ss.length uc] 55)).alloc (.cells #[.slice va s.length vc] 38));have hb1:Below w.heap.size w W1:=by rw[hW1];exact((Below.refl _ w).alloc (Nat.le_refl _) _).alloc (by simp) _
 have kA:W1.heap[w.heap.size]? = some (.cells #[.slice ua ss.length uc] 55):=by
  rw[hW1];exact(Below.heap_alloc _ _ _ (by simp)).trans (heap_alloc_new w _)
 have kB:W1.heap[w.heap.size+1]? = some (.cells #[.slice va s.length vc] 38):=by
  rw[hW1];have:=heap_alloc_new (w.alloc (.cells #[.slice ua ss.length uc] 55)) (.cells #[.slice va s.length vc] 38)
  rwa [World.size_alloc] at this
 have HI:=containsCov (cell_of_one kA) (cell_of_one kB) (hK.keep hb1) (hs.keep hb1) (hA.keep hb1) hL;obtain⟨za,zc,_,_,rfl,_⟩:=hA;obtain⟨n1,hn1⟩:=exE (ss.length);obtain⟨n2,hn2⟩:=exE (s.length);obtain⟨E,hE⟩:∃E,L.any (fun i=>pfG s (ss.getD i []))=E:=⟨_,rfl⟩;rw[hE] at HI|-;rw[hn1,hn2] at hW1|-;obtain⟨n3,hn3⟩:=exE ((natI L).length);rw[hn3] at HI|-;replace HI:=qH HI;clear hE hn1 hn2 kA kB hK hs hL hn3;go_enter Tryz.func94, Tryz.ntmps94
 go_wp2_with fail
 rw[<-hW1];replace hW1:=qH hW1;refine HI.out.mono ?_;rintro e w3 ⟨rfl,hb3⟩;go_wp2;go_ret;exact⟨rfl,btt hb1 hb3⟩
theorem heap_setCell_other {w:World}{p:Addr}{v:Value}{k:Nat}(h:k ≠ p.block):(w.setCell p v).heap[k]? = w.heap[k]?:=Below.heap_setCell w p v k h
theorem setCells_row {b:Nat}{E:TypeId}:∀(vs:List Value) (o:Nat) (w:World) (cur:Array Value),w.heap[b]? = some (.cells cur E)->
  ∃cur',(w.setCells b o vs).heap[b]? = some (.cells cur' E)/\cur'.size=cur.size/\cur'.toList.take o=cur.toList.take o/\(∀k,k ≠ b->(w.setCells b o vs).heap[k]? = w.heap[k]?)/\
   (w.setCells b o vs).heap.size=w.heap.size/\(w.setCells b o vs).os=w.os/\(w.setCells b o vs).tape=w.tape/\(w.setCells b o vs).output=w.output
 | [],o,w,cur,h=>⟨cur,h,rfl,rfl,fun _ _=>rfl,rfl,rfl,rfl,rfl⟩
 | v::vs,o,w,cur,h=>by
  have h1:=heap_setCell_same w b o cur E v h;obtain⟨cur',k1,k2,k3,k4,k5,k6,k7,k8⟩:=setCells_row vs (o+1) (w.setCell ⟨b,o,none⟩ v) _ h1;refine⟨cur',k1,by rw[k2];simp,?_,fun k hk=>(k4 k hk).trans (heap_setCell_other hk),k5.trans (by simp[World.setCell]),k6,k7,k8⟩;have:=congrArg (List.take o) k3
  rw[List.take_take,List.take_take,Nat.min_eq_left (Nat.le_succ o)] at this;rw[this,Array.toList_setIfInBounds,List.take_set,List.set_eq_of_length_le (by rw[List.length_take];exact Nat.min_le_left _ _)]
def WK (w:World) (vs:List Value) (us:Jc):Prop:=vs.length=us.length/\∀(j:Nat) (v:Value) (u:Jb),vs[j]? = some v->us[j]? = some u->KSC 2 w v u
theorem KSC.oneCell {k:Nat}{w:World}{v:Value}{xs:Jb}(h:KSC k w v xs):v.oneCell'=true:=by obtain⟨_,_,_,_,rfl,_⟩:=h;rfl
def EWk (w0:World) (_:World) (cs:List Value) (x:Jb):Prop:=∃u,cs = [u]/\KSC 2 w0 u x
theorem EWk.stab (w0:World) (E:TypeId):Stab E (EWk w0):=fun _ _ _ _ h _=>h
theorem OwX.ofWK {w0 w:World}{B n:Nat}{E:TypeId}{v:Value}{vs:List Value}{us:Jc}(h:w.ownsRow B E 1 v n vs) (hW:WK w0 vs us):OwX E 1 (EWk w0) w B v n us:=by
 have hl:vs.length=n:=by have:=h.1;omega
 refine⟨vs,h,by rw[<-hW.1,hl],fun u hu=>?_,fun j x hj=>?_⟩
 ·obtain⟨j,hj,rfl⟩:=List.getElem_of_mem hu;exact(hW.2 j _ (us.getD j []) (List.getElem?_eq_getElem hj) (by rw[getD_eq (by rw[<-hW.1];exact hj)];exact List.getElem?_eq_getElem (by rw[<-hW.1];exact hj))).oneCell
 ·have hj':j < vs.length:=by rw[hW.1];exact(List.getElem?_eq_some_iff.1 hj).1
  refine⟨vs[j],?_,hW.2 j _ x (List.getElem?_eq_getElem hj') hj⟩;rw[Nat.mul_one,List.drop_eq_getElem_cons hj'];rfl
theorem OwX.toWK {w0 w:World}{B n:Nat}{E:TypeId}{v:Value}{us:Jc}(h:OwX E 1 (EWk w0) w B v n us):∃vs,w.ownsRow B E 1 v n vs/\WK w0 vs us:=by
 obtain⟨vs,h1,h2,_,h4⟩:=h;have hl:vs.length=n:=by have:=h1.1;omega
 refine⟨vs,h1,by rw[hl,h2],fun j v u hv hu=>?_⟩;obtain⟨u',e,hk⟩:=h4 j u hu;have hj':=(List.getElem?_eq_some_iff.1 hv).1;rw[Nat.mul_one,List.drop_eq_getElem_cons hj'] at e;rw[List.getElem?_eq_getElem hj'] at hv;injection hv with hv;have e2:vs[j]=u':=by injection e
 rw[<-hv,e2];exact hk
theorem OwX.kcell {w0 w:World}{B g n cap:Nat}{E:TypeId}{us:Jc}(h:OwX E 1 (EWk w0) w B (.slice (some ⟨g,0,none⟩) n cap) n us) {j:Nat}(hj:j < n):∃u,w.cell? ⟨g,j,none⟩=some u/\KSC 2 w0 u (us.getD j []):=by
 obtain⟨vs,h1,h2⟩:=h.toWK;have hl:vs.length=n:=by have:=h1.1;omega
 have hc:=World.ownsRow.cellAt h1 j (by omega);rw[List.getElem?_eq_getElem (by omega)] at hc;refine⟨_,hc,h2.2 j _ _ (List.getElem?_eq_getElem (by omega)) ?_⟩;rw[getD_eq (by rw[<-h2.1];omega)];exact List.getElem?_eq_getElem (by rw[<-h2.1];omega)
theorem OwX.kssK {w0 w:World}{B n:Nat}{E:TypeId}{v:Value}{us:Jc}(h:OwX E 1 (EWk w0) w B v n us) (hb:Below w0.heap.size w0 w) (hn:n<=1000000):KSSC 2 w v us:=by
 have hl:=h.length;obtain⟨a,c,rfl⟩:=h.shape;subst hl;have hcp:=(OwX.capM h).1;rcases Nat.eq_zero_or_pos us.length with h0|h0
 ·exact⟨a,c,0,0,rfl,fun h=>absurd h (by omega),fun j hj=>absurd hj (by omega),by omega,hcp⟩
 ·obtain⟨g,cap,he,_⟩:=h.form h0;injection he with e1 e2 e3;subst e1 e3;refine⟨_,_,g,0,rfl,fun _=>rfl,fun j hj=>?_,by omega,hcp⟩;obtain⟨u,hu,hk⟩:=h.kcell hj;exact⟨u,by rw[Nat.zero_add];exact hu,hk.keep hb⟩
open Go.Shelf Go.Lib Go.Sort
theorem grown_of {w w':World}(hb:Go.RowKit.Below w.heap.size w w') (hd:w.drawn<=w'.drawn):∃q os,w'=grow (w.drewN q) os:=by
 refine⟨w'.drawn - w.drawn,w'.heap.extract w.heap.size w'.heap.size,?_⟩
 have hh:w'.heap=w.heap++w'.heap.extract w.heap.size w'.heap.size:=by
  apply Array.ext_getElem?
  intro k;by_cases hk:k < w.heap.size
  ·rw[Array.getElem?_append_left hk];exact hb.block k hk
  ·have hs:=hb.size;rw[Array.getElem?_append_right (by omega),Array.getElem?_extract];by_cases hk2:k < w'.heap.size
   ·rw[if_pos (by omega)];congr 1;omega
   ·rw[if_neg (by omega),Array.getElem?_eq_none (by omega)]
 have h1:=hb.os;have h2:=hb.tape;have h3:=hb.output;have hdd:w.drawn+(w'.drawn - w.drawn)=w'.drawn:=by omega
 cases w with
 | mk heap tape drawn os output=>
  cases w' with
  | mk heap' tape' drawn' os' output'=>
   simp only at h1 h2 h3 hh hdd
   subst h1 h2 h3;simp only[grow,World.drewN];rw[hdd,<-hh]
theorem heap_sortWorld_other {α:Type} [Inhabited α] {enc:α->Value}{w:World}{blk k:Nat}(off n:Nat) (d:Array α) (os:Array Obj) (hne:k ≠ blk) (hk:k < w.heap.size):(sortWorld enc w blk off n d os).heap[k]? = w.heap[k]?:=by
 simp only[sortWorld,grow,putRow,mapBlock,Sort.ahead];rw[Array.getElem?_append_left (by simpa using hk),Array.getElem?_modify,if_neg (fun h=>hne h.symm)]
theorem heap_sortWorld_same {α:Type} [Inhabited α] {enc:α->Value}{w:World}{blk:Nat}(off n:Nat) (d:Array α) (os:Array Obj) {cs:Array Value}{t:TypeId}{fz:Nat × Nat}(h:w.heap[blk]? = some (.cells cs t fz)):(sortWorld enc w blk off n d os).heap[blk]? = some (.cells (putCells enc off d cs) t fz):=by
 simp only[sortWorld,grow,putRow,mapBlock,Sort.ahead];rw[Array.getElem?_append_left (by simpa using (Array.getElem?_eq_some_iff.1 h).1),Array.getElem?_modify,if_pos rfl,h];rfl
theorem below_sortWorld {α:Type} [Inhabited α] {enc:α->Value}{w:World}{blk:Nat}(n:Nat) (d:Array α) (os:Array Obj) {B:Nat}(hB:B<=blk) (hb:blk < w.heap.size):Go.RowKit.Below B w (sortWorld enc w blk 0 n d os):=by
 refine⟨rfl,rfl,rfl,?_,fun k hk=>heap_sortWorld_other _ _ _ _ (by omega) (by omega)⟩;simp[sortWorld,grow,putRow,mapBlock,Sort.ahead]
theorem putCells_take {α:Type} [Inhabited α] (enc:α->Value) (d:Array α) (cs:Array Value) (hd:d.size<=cs.size):(putCells enc 0 d cs).toList.take d.size=d.toList.map enc:=by
 apply List.ext_getElem?
 intro k;rw[List.getElem?_take];by_cases hk:k < d.size
 ·rw[if_pos hk,Array.getElem?_toList];simp only[putCells,Array.getElem?_mapIdx];rw[Array.getElem?_eq_getElem (by omega:k < cs.size)];simp[hk]
 ·rw[if_neg hk,List.getElem?_eq_none (by simp;omega)]
def VsE (w0:World):Type:={ x:Value × Jb // KSC 2 w0 x.1 x.2 }
theorem ksc_nil (w0:World):KSC 2 w0 (.slice none 0 0) []:=⟨none,0,0,0,rfl,fun h=>absurd h (by decide),fun j hj=>absurd hj (Nat.not_lt_zero _),by decide,by decide⟩
instance (w0:World):Inhabited (VsE w0):=⟨⟨(.slice none 0 0,[]),ksc_nil w0⟩⟩
def VsE.enc {w0:World}(x:VsE w0):Value:=x.1.1
def VsE.cf {w0:World}(x y:VsE w0):Int:=cmpL x.1.2.flatten y.1.2.flatten
theorem VsE.one (w0:World):OneCell (VsE.enc (w0:=w0)):=fun x=>x.2.oneCell
theorem VsE.swo (w0:World):SWO (ltOf (VsE.cf (w0:=w0))) where
 irrefl _:=decide_eq_false fun h=>cmpL_asymm _ _ h h
 trans _ _ _ h1 h2:=decide_eq_true (cmpL_trans _ _ _ (of_decide_eq_true h1) (of_decide_eq_true h2))
 ntrans _ _ _ h1 h2:=decide_eq_false (cmpL_ntrans _ _ _ (of_decide_eq_false h1) (of_decide_eq_false h2))
theorem VsE.lays {w0 w:World}{blk:Nat}(size:Nat) (hb:Go.RowKit.Below w0.heap.size w0 w) (hB:w0.heap.size<=blk) (hblk:blk < w.heap.size):CmpLays1 Tryz.prog 92 #[] (VsE.enc (w0:=w0)) VsE.cf blk 0 size w:=by
 intro m os dk _ x y;have hk:=hb.trans (below_sortWorld (enc:=VsE.enc (w0:=w0)) m dk os hB hblk);exact(compareC (x.2.keep hk).ks (y.2.keep hk).ks).mono fun _ _ ⟨he,hb,hd⟩=>⟨he,grown_of hb hd⟩
theorem sortVsK {w0 w:World}{B g n cap:Nat}{us:Jc}(hb:Go.RowKit.Below w0.heap.size w0 w) (hB0:w0.heap.size<=B) (h:OwX 38 1 (EWk w0) w B (.slice (some ⟨g,0,none⟩) n cap) n us) (hn:n<=1000000) :
  Calls Tryz.prog 197 #[.slice (some ⟨g,0,none⟩) n cap,.func (.func 92) #[] #[]] w fun e w'=>
   e = .returned (.tuple #[])/\∃us':Jc,us'.Perm us/\us'.Pairwise (fun a b=>¬cmpL b.flatten a.flatten < 0)/\OwX 38 1 (EWk w0) w' B (.slice (some ⟨g,0,none⟩) n cap) n us'/\Go.RowKit.Below B w w':=by
 have hl:=h.length;obtain⟨vs,h1,hW⟩:=h.toWK;have hvl:vs.length=n:=by have:=h1.1;omega
 have hks:∀j,j < n->KSC 2 w0 (vs.getD j (.slice none 0 0)) (us.getD j []):=fun j hj=>
  hW.2 j _ _ (by rw[getD_eq (by omega)];exact List.getElem?_eq_getElem (by omega)) (by rw[getD_eq (by omega)];exact List.getElem?_eq_getElem (by omega))
 rcases h1.2 with⟨h0,_⟩|⟨g',cap',cur,he,hB,hg,hc1,hc2,hc3,hc4⟩
 ·cases h0
 ·injection he with he1 he2 he3;injection he1 with he1;injection he1 with he1;subst he1 he3;let mk:Fin n->VsE w0:=fun j=>⟨(vs.getD j (.slice none 0 0),us.getD j []),hks j j.2⟩
  obtain⟨d,hd⟩:=exF (Array.ofFn mk);have hds:d.size=n:=by rw[hd];simp
  have hdj:∀j (hj:j < n),d[j]! = mk ⟨j,hj⟩:=fun j hj=>by rw[getElem!_pos d j (by omega)];simp[hd]
  have hgl:=(Array.getElem?_eq_some_iff.1 hg).1
  have hH:Holds (VsE.enc (w0:=w0)) w g 0 d:=by
   intro j hj;rw[hds] at hj;rw[hdj j hj,Nat.zero_add];refine⟨?_,World.ownsRow.frozenAt h1 j⟩;rw[World.ownsRow.cellAt h1 j (by omega)];show vs[j]? = some (vs.getD j (.slice none 0 0));rw[getD_eq (by omega)];exact List.getElem?_eq_getElem (by omega)
  have eg:∀args w,(callFunc 92 args).run Tryz.prog w = .ok (.enter 92 args) w:=enters_of Tryz.func92 (by kernel_rfl) rfl;have hS:=Any.slices_SortFunc Tryz.sortVs VsE.enc (VsE.one w0) VsE.cf (VsE.swo w0) 92 #[] g 0 cap d w eg (VsE.lays d.size hb (by omega) hgl) hH hgl (by omega);rw[hds] at hS;change Calls Tryz.prog 197 _ _ _ at hS;refine hS.mono ?_;rintro e w' ⟨rfl,d',m,os,hp,hs,rfl⟩;obtain⟨hp1,_,hp2⟩:=hp;rw[hds] at hp1;have e1:d'.extract 0 n=d':=by rw[<-hp1];simp
  have e2:d.extract 0 n=d:=by rw[<-hds];simp
  rw[e1,e2] at hp2
  have ex:d.toList.map (fun x:VsE w0=>x.1.2)=us:=by
   apply List.ext_getElem
   ·simp[hds,hl]
   ·intro j hj1 hj2;simp only[List.getElem_map,Array.getElem_toList];have:=hdj j (by omega)
    rw[getElem!_pos d j (by omega)] at this;rw[this];exact getD_eq hj2 []
  refine⟨rfl,d'.toList.map (fun x:VsE w0=>x.1.2),?_,?_,OwX.ofWK (vs:=d'.toList.map VsE.enc) ⟨by simp[hp1],.inr ⟨g,cap,putCells VsE.enc 0 d' cur,rfl,hB,heap_sortWorld_same 0 m d' os hg,hc1,hc2,by simpa [putCells] using hc3,?_⟩⟩ ⟨by simp,fun j v u hv hu=>?_⟩,below_sortWorld m d' os hB hgl⟩
  ·rw[<-ex];exact hp2.map _
  ·rw[List.pairwise_map,List.pairwise_iff_getElem];intro i j hi hj hij;simp only[Array.length_toList] at hi hj;have:=hs i j (Nat.zero_le _) hij (by omega)
   rw[getElem!_pos d' i hi,getElem!_pos d' j hj] at this;exact of_decide_eq_false this
  ·have:=putCells_take VsE.enc d' cur (by omega)
   rw[hp1] at this;rw[Nat.mul_one,this]
  ·rw[List.getElem?_map] at hv hu
   have hjl:j < d'.size:=by
    rcases Nat.lt_or_ge j d'.size with h|h
    ·exact h
    ·rw[List.getElem?_eq_none (by simpa using h)] at hv;cases hv
   rw[Array.getElem?_toList,Array.getElem?_eq_getElem hjl] at hv hu;simp only[Option.map_some,Option.some.injEq] at hv hu;rw[<-hv,<-hu];exact d'[j].2
theorem OwX.frozen {α:Type}{E:TypeId}{k:Nat}{El:World->List Value->α->Prop}{w:World}{B g n cap:Nat}{xs:List α}(h:OwX E k El w B (.slice (some ⟨g,0,none⟩) n cap) n xs) (j:Nat):w.frozen? ⟨g,j,none⟩=false:=by
 obtain⟨vs,h1,_⟩:=h;exact World.ownsRow.frozenAt h1 j
def cmpw:Jc->Jc
 | []=>[]
 | [x]=>[x]
 | x::y::r=>if x=y then cmpw (y::r) else x::cmpw (y::r)
theorem cmpw_snoc:∀ {l:Jc}{x y:Jb},cmpw (l ++ [x] ++ [y])=if x=y then cmpw (l ++ [x]) else cmpw (l ++ [x]) ++ [y]
 | [],x,y=>by
  by_cases h:x=y
  ·subst h;simp[cmpw]
  ·simp[cmpw,h]
 | [a],x,y=>by
  by_cases ha:a=x<;>by_cases h:x=y<;>simp[cmpw,ha,h]
 | a::b::l,x,y=>by
  have ih:=cmpw_snoc (l:=b::l) (x:=x) (y:=y);simp only[List.cons_append] at ih|-;by_cases ha:a=b
  ·rw[cmpw,if_pos ha,ih];by_cases h:x=y
   ·rw[if_pos h,if_pos h,cmpw,if_pos ha]
   ·rw[if_neg h,if_neg h,cmpw,if_pos ha]
  ·rw[cmpw,if_neg ha,ih];by_cases h:x=y
   ·rw[if_pos h,if_pos h,cmpw,if_neg ha]
   ·rw[if_neg h,if_neg h,cmpw,if_neg ha];rfl
theorem cmpw_take {xs:Jc}{m:Nat}(h:m+1 < xs.length):cmpw (xs.take (m+2))=if xs.getD m []=xs.getD (m+1) [] then cmpw (xs.take (m+1)) else cmpw (xs.take (m+1)) ++ [xs.getD (m+1) []]:=by
 rw[take_snoc h [],take_snoc (show m < xs.length by omega) [],cmpw_snoc]
theorem cmpw_len_le:∀l:Jc,(cmpw l).length<=l.length
 | []=>by simp[cmpw]
 | [x]=>by simp[cmpw]
 | x::y::r=>by
  have:=cmpw_len_le (y::r)
  rw[cmpw];split<;>simp at this|-<;>omega
theorem compactw_put {xs cs:Jc}{m kk:Nat}{x:Jb}(hcl:cs.length=xs.length) (hk:kk < m) (hm:m < xs.length) (h1:cs.take kk=cmpw (xs.take m)) (h2:∀j,kk<=j->cs.getD j []=xs.getD j []) (hx:xs.getD m []=x) (hne : ¬xs.getD (m - 1) []=x) :
  (cs.set kk x).take (kk+1)=cmpw (xs.take (m+1))/\∀j,kk+1<=j->(cs.set kk x).getD j []=xs.getD j []:=by
 obtain⟨p,rfl⟩:∃p,m=p+1:=⟨m - 1,by omega⟩;refine⟨?_,fun j hj=>?_⟩
 ·rw[cmpw_take hm,if_neg (by rw[hx];exact hne),<-h1,hx,List.take_set,take_snoc (show kk < cs.length by omega) [],List.set_append_right _ _ (by rw[List.length_take];exact Nat.min_le_left _ _),List.length_take,Nat.min_eq_left (by omega),Nat.sub_self];rfl
 ·rw[List.getD_eq_getElem?_getD,List.getElem?_set_ne (by omega),<-List.getD_eq_getElem?_getD];exact h2 j (by omega)
theorem OwX.setTailK {w:World}{B g n cap m:Nat}{w0:World}{xs:Jc}(h:OwX 38 1 (EWk w0) w B (.slice (some ⟨g,0,none⟩) n cap) n xs) (hm:m<=n) (vs:List Value) :
  OwX 38 1 (EWk w0) (w.setCells g (m * 1) vs) B (.slice (some ⟨g,0,none⟩) m cap) m (xs.take m)/\Below B w (w.setCells g (m * 1) vs)/\KeepX 38 w (w.setCells g (m * 1) vs):=by
 have hl:=h.length;obtain⟨ws,h1,h2,h3,h4⟩:=h;rcases h1.2 with⟨h0,_⟩|⟨g',cap',cur,he,hB,hg,hc1,hc2,hc3,hc4⟩
 ·cases h0
 ·injection he with he1 he2 he3;injection he1 with he1;injection he1 with he1;subst he1 he3;obtain⟨cur',k1,k2,k3,k4,k5,k6,k7,k8⟩:=setCells_row vs (m * 1) w cur hg;have hmn:m * 1<=n * 1:=Nat.mul_le_mul_right _ hm;have hwl:ws.length=n * 1:=h1.1
  have hws:cur'.toList.take (m * 1)=ws.take (m * 1):=by
   rw[k3,<-hc4,List.take_take,Nat.min_eq_left hmn]
  refine⟨⟨ws.take (m * 1),⟨by rw[List.length_take];omega,.inr ⟨g,cap,cur',rfl,hB,k1,by omega,hc2,by rw[k2];exact hc3,hws⟩⟩,by rw[List.length_take];omega,fun u hu=>h3 u (List.mem_of_mem_take hu),fun j x hj=>?_⟩,⟨k6,k7,k8,by rw[k5];exact Nat.le_refl _,fun k hk=>k4 k (by omega)⟩,fun k cs t hk ht=>k4 k fun e=>?_⟩
  ·rw[List.getElem?_take] at hj;split at hj
   ·rename_i hjm
    have:=h4 j x hj
    have hjm7:j * 1+1<=m * 1:=(by rw[<-Nat.succ_mul];exact Nat.mul_le_mul_right _ hjm);rw[List.drop_take,List.take_take,Nat.min_eq_left (by omega)];exact this
   ·cases hj
  ·subst e;rw[hg] at hk;injection hk with hk;injection hk with _ hk;exact ht hk.symm
theorem compactVs {w0 w:World}{B g n cap:Nat}{xs:Jc}(hb0:Below w0.heap.size w0 w) (hB0:w0.heap.size<=B) (h:OwX 38 1 (EWk w0) w B (.slice (some ⟨g,0,none⟩) n cap) n xs) (hn:n<=1000) :
  Calls Tryz.prog 198 #[.slice (some ⟨g,0,none⟩) n cap,.func (.func 199) #[] #[]] w fun e w'=>∃m,e = .returned (.slice (some ⟨g,0,none⟩) m cap)/\OwX 38 1 (EWk w0) w' B (.slice (some ⟨g,0,none⟩) m cap) m (cmpw xs)/\Below B w w'/\KeepX 38 w w':=by
 have hl:=h.length
 have hB:B<=g:=by
  obtain⟨_,h1,_⟩:=h;exact(World.ownsRow.lt h1 g rfl).1
 have hnc:n<=cap/\(cap:Int)<=9223372036854775807:=by
  obtain⟨_,h1,_⟩:=h;rcases h1.2 with⟨h0,_⟩|⟨g',cap',cur,he,_,_,hc1,hc2,_⟩
  ·cases h0
  ·injection he with _ _ he3;subst he3;unfold maxLen at hc2;exact⟨hc1,by omega⟩
 obtain⟨hnc1,hnc2⟩:=hnc;have hcells:=qH (fun j (hj:j < n)=>OwX.kcell h hj);have hh:=qH h;have hlh:=qH hl;clear h hl
 have hfin0:Hid (∀q,cmpw (xs.take n)=xs.take n->OwX 38 1 (EWk w0) (w.drewN q) B (.slice (some ⟨g,0,none⟩) n cap) n (cmpw xs)):=fun q hq=>by
  rw[List.take_of_length_le (by rw[hlh.out];exact Nat.le_refl _)] at hq;rw[hq];exact hh.out.keep (EWk.stab _ _) (below_drewN (Below.refl _ w) q)
 have hBw:Hid (∀q,Below B w (w.drewN q)/\KeepX 38 w (w.drewN q)):=fun q=>⟨below_drewN (Below.refl _ w) q,KeepX.below (below_drewN (Below.refl _ w) q)⟩;by_cases h2:n < 2
 ·have hall:Hid (cmpw (xs.take n)=xs.take n):=by
   show _=_;have:n=0\/n=1:=by omega
   rcases this with rfl|rfl
   ·simp[cmpw]
   ·match xs,hlh.out with
    | [x],_=>simp[cmpw]
  have hd:decide ((n:Int) < 2)=true:=decide_eq_true (by omega);go_enter Tryz.func198, Tryz.ntmps198
  go_wp2;go_ret;exact⟨n,rfl,hfin0.out 0 hall.out,(hBw.out 0).1,(hBw.out 0).2⟩
 ·have hd:decide ((n:Int) < 2)=false:=decide_eq_false (by omega)
  have h1:Hid (cmpw (xs.take (0+1))=xs.take (0+1)):=by
   show _=_;match xs,hlh.out with
   | x::r,_=>simp[cmpw]
   | [],h=>simp at h;omega
  go_enter Tryz.func198, Tryz.ntmps198
  go_wp2_with fail
  go_loopg [5] n (fun f kv wr=>∃p q:Nat,kv = .int .i64 ((p:Int)+1)/\p+1<=n/\n<=p+1+f/\wr=w.drewN q/\Hid (cmpw (xs.take (p+1))=xs.take (p+1)))
  case atStart=>exact⟨0,0,rfl,by omega,by omega,rfl,h1⟩
  case round=>
   clear h1;obtain⟨p,q,rfl,hp,hpf,rfl,hc⟩:=hrel;by_cases hlt:p+1 < n
   ·obtain⟨f,rfl⟩:∃f,gk=f+1:=⟨gk - 1,by omega⟩;obtain⟨u1,c0,hx7⟩:=hcells.out (p+1) hlt;obtain⟨u2,d0,hy7⟩:=hcells.out p (by omega);obtain⟨x,hx⟩:=exE (xs.getD (p+1) []);obtain⟨y,hy⟩:=exE (xs.getD p []);have htk:=cmpw_take (xs:=xs) (m:=p) (by rw[hlh.out];exact hlt);rw[hx,hy] at htk;rw[hx] at hx7;rw[hy] at hy7;have HC:=fun q=>eqVxs (hx7.keep (below_drewN hb0 q)).ks (hy7.keep (below_drewN hb0 q)).ks;obtain⟨sa1,sc1,hs1⟩:=hx7.shape;obtain⟨sa2,sc2,hs2⟩:=hy7.shape;subst hs1 hs2;have hix1:(p:Int)+1 < (n:Int):=(by omega);have hix0:(0:Int)<=(p:Int):=(by omega);have hix2:(0:Int)<=(p:Int)+1:=(by omega);have hix3:(p:Int) < (n:Int):=(by omega);have hwr:IntKind.i64.wrap ((p:Int)+1 - 1)=(p:Int):=(by rw[show(p:Int)+1 - 1=(p:Int) by omega];exact IntWalk.i64_in _ (by omega));have htn:((p:Int)+1).toNat=p+1:=(by omega);have hty:=hy;have hxt:=hx;clear hx7 hy7 hx hy;by_cases he:x=y
    ·simp only[decide_eq_true he] at HC;replace HC:=qH HC;rw[if_pos he.symm,hc.out] at htk;have htk:=qH htk;replace hty:=qH hty;clear he hc hxt;go_wp2_with fail
     go_quiet ((go_at_call 199;first|exact quietOn (HC.out _)|(refine(HC.out _).mono ?_;rintro e w' ⟨he,k,rfl⟩;exact⟨he,_,World.drewN_drewN _ _ _⟩)))
     go_wp2_with fail
     obtain⟨N2,hN2⟩:=exE (n - (p+1));obtain⟨C2,hC2⟩:=exE (cap - (p+1));rw[hN2,hC2];have hnN:n=p+1+N2:=(by omega);replace hC2:=qH hC2;replace hN2:=qH hN2;have hnNh:=qH hnN;have hN2i:(1:Int)<=(N2:Int):=(by omega);have hs0:Hid (xs.take (p+1)=cmpw (xs.take (p+1+(0+1)))):=htk.out.symm;have hO0:OwX 38 1 (EWk w0) (w.drewN (q+nq)) B (.slice (some ⟨g,0,none⟩) n cap) n xs:=hh.out;have hb0:Below B w (w.drewN (q+nq)):=below_drewN (Below.refl _ w) _;have hk0:KeepX 38 w (w.drewN (q+nq)):=KeepX.below (below_drewN (Below.refl _ w) _);have hk0h:=qH hk0;have hsame:Hid (∀j,p+1<=j->xs.getD j []=xs.getD j []):=fun _ _=>rfl;clear hnN c0 d0 hix1 hix2 htn hwr hk0;go_loopg [5,7] N2 (fun f kv rv wr=>∃(kk r:Nat) (cs:Jc),kv = .int .i64 ((kk:Nat):Int)/\rv = .int .i64 ((r:Int)+1)/\r+1<=N2/\N2<=r+1+f/\kk < p+1+(r+1)/\OwX 38 1 (EWk w0) wr B (.slice (some ⟨g,0,none⟩) n cap) n cs/\Hid (cs.take kk=cmpw (xs.take (p+1+(r+1))))/\Hid (∀j,kk<=j->cs.getD j []=xs.getD j [])/\Below B w wr/\Hid (KeepX 38 w wr))
     case atStart=>exact⟨p+1,0,xs,by go_num,rfl,by omega,by omega,by omega,hO0,hs0,hsame,hb0,hk0h⟩
     case round=>
      clear hO0 hs0 hsame hb0 hk0h;obtain⟨kk,r,cs,rfl,rfl,hr,hrf,hkk,hO,htkk,hsm,hbw,hkx⟩:=hrel;have hcl:=hO.length;have hOh:=qH hO;have hnn:=hnNh.out;by_cases hltr:r+1 < N2
      ·obtain⟨f,rfl⟩:∃f,gk=f+1:=⟨gk - 1,by omega⟩;obtain⟨u1,c0,hx7⟩:=OwX.kcell hO (j:=p+1+(r+1)) (by omega);obtain⟨u2,d0,hy7⟩:=OwX.kcell hO (j:=p+1+r) (by omega);obtain⟨u3,e0,hz7⟩:=OwX.kcell hO (j:=kk) (by omega);rw[hsm.out _ (by omega)] at hx7;rw[hsm.out _ (by omega)] at hy7;obtain⟨x,hx⟩:=exE (xs.getD (p+1+(r+1)) []);obtain⟨y,hy⟩:=exE (xs.getD (p+1+r) []);obtain⟨z,hz⟩:=exE (cs.getD kk []);have htt:=cmpw_take (xs:=xs) (m:=p+1+r) (by rw[hlh.out];omega);have hput:=compactw_put (xs:=xs) (cs:=cs) (m:=p+1+(r+1)) (kk:=kk) (x:=x) (by rw[hcl,hlh.out]) hkk (by rw[hlh.out];omega) htkk.out hsm.out hx;rw[show p+1+r+1=p+1+(r+1) by omega,hx,hy] at htt;rw[show p+1+(r+1) - 1=p+1+r by omega,hy] at hput;rw[hx] at hx7;rw[hy] at hy7;have hbr0:Below w0.heap.size w0 wr:=hb0.trans (hbw.mono hB0);have HC:=fun q=>eqVxs (hx7.keep (below_drewN hbr0 q)).ks (hy7.keep (below_drewN hbr0 q)).ks;have hx7h:=qH hx7;obtain⟨sa1,sc1,hs1⟩:=hx7.shape;obtain⟨sa2,sc2,hs2⟩:=hy7.shape;subst hs1 hs2;have hi1:(r:Int)+1 < (N2:Int):=(by omega);have hi2:(0:Int)<=(r:Int)+1:=(by omega);have hi3:(0:Int)<=(r:Int):=(by omega);have hi4:(r:Int) < (N2:Int):=(by omega);have hi5:(kk:Int) < (n:Int):=(by omega);have hN2b:(N2:Int)<=1000:=(by omega);have hkkb:(kk:Int)<=1000:=(by omega);have htn:((r:Int)+1).toNat=r+1:=(by omega);have hwr:IntKind.i64.wrap ((r:Int)+1 - 1)=(r:Int):=(by rw[show(r:Int)+1 - 1=(r:Int) by omega];exact IntWalk.i64_in _ (by omega));have hwr2:IntKind.i64.wrap (r:Int)=(r:Int):=IntWalk.i64_in _ (by omega);clear hx7 hy7 hz7 hx hy hz hO;by_cases he:x=y
       ·simp only[decide_eq_true he] at HC;replace HC:=qH HC;rw[if_pos he.symm] at htt;have htt2:Hid (cs.take kk=cmpw (xs.take (p+1+(r+1+1)))):=htkk.out.trans htt.symm;clear he htt hput;replace hnn:=qH hnn;replace hcl:=qH hcl;go_wp2_with fail
        go_quiet ((go_at_call 199;first|exact quietOn (HC.out _)|(refine(HC.out _).mono ?_;rintro e w' ⟨he,k,rfl⟩;exact⟨he,_,World.drewN_drewN _ _ _⟩)))
        clear hwr hwr2 htn;go_wp2_with fail
        go_roundg f
        case measure=>omega
        case rel=>exact⟨kk,r+1,cs,rfl,by go_num,by omega,by omega,by omega,hOh.out,htt2,hsm,below_drewN hbw _,hkx.out.trans (KeepX.below (below_drewN (Below.refl _ _) _))⟩
       ·simp only[decide_eq_false he] at HC;replace HC:=qH HC;obtain⟨hp1,hp2⟩:=hput (fun h=>he h.symm);have hp1h:=qH hp1;have hp2h:=qH hp2;have hst:Hid (∀d,OwX 38 1 (EWk w0) ((wr.drewN d).setCell ⟨g,kk,none⟩ (.slice sa1 x.length sc1)) B (.slice (some ⟨g,0,none⟩) n cap) n (cs.set kk x)):=fun d=>(OwX.store1 (EWk.stab _ _) (OwX.keep (EWk.stab _ _) hOh.out (below_drewN (Below.refl _ _) d)) (by omega) (u:=.slice sa1 x.length sc1) rfl (x:=x) ⟨_,rfl,hx7h.out⟩).1;have hst3:Hid (∀d,Below B w ((wr.drewN d).setCell ⟨g,kk,none⟩ (.slice sa1 x.length sc1))):=fun d=>Below.setCell (p:=⟨g,kk,none⟩) (below_drewN hbw d) hB _
        have hst2:Hid (∀d,KeepX 38 w ((wr.drewN d).setCell ⟨g,kk,none⟩ (.slice sa1 x.length sc1))):=fun d=>by
         obtain⟨_,h1,_⟩:=OwX.keep (EWk.stab _ _) hOh.out (below_drewN (Below.refl wr.heap.size wr) d);obtain⟨cs',g0⟩:=ownsRow_ty h1 g rfl;exact(hkx.out.trans (KeepX.below (below_drewN (Below.refl _ _) d))).trans (KeepX.setCell (p:=⟨g,kk,none⟩) g0 _)
        have hfz:∀j,wr.frozen? ⟨g,j,none⟩=false:=fun j=>hOh.out.frozen j;have f0:=hfz kk;clear he htt hput hp1 hp2 hfz;replace hnn:=qH hnn;replace hcl:=qH hcl;go_wp2_with fail
        go_quiet ((go_at_call 199;first|exact quietOn (HC.out _)|(refine(HC.out _).mono ?_;rintro e w' ⟨he,k,rfl⟩;exact⟨he,_,World.drewN_drewN _ _ _⟩)))
        clear hwr hwr2 htn;go_wp2_with fail
        go_roundg f
        case measure=>omega
        case rel=>exact⟨kk+1,r+1,cs.set kk x,by go_num,by go_num,by omega,by omega,by omega,hst.out _,hp1h,hp2h,hst3.out _,hst2.out _⟩
      ·have hrN:r+1=N2:=(by omega);have hfz:∀j,wr.frozen? ⟨g,j,none⟩=false:=fun j=>hO.frozen j
       have hcs:∀j,j < n - kk->(wr.cell? ⟨g,kk+j,none⟩).isSome=true:=fun j hj=>by
        obtain⟨_,h1,_⟩:=OwX.kcell hO (j:=kk+j) (by omega);rw[h1];rfl
       have hcl7:=fun ty=>Lib.run_clear_slice (P:=Tryz.prog) wr 55 38 ty (.slice none 0 0) (by kernel_rfl) (fun w=>by kernel_rfl) rfl rfl g kk (n - kk) (cap - kk) (by omega) hcs (fun j _=>hfz _);obtain⟨Z,hZ⟩:=exE (List.replicate (n - kk) (Value.slice none 0 0));simp only[hZ] at hcl7;obtain⟨t1,t2,t3⟩:=OwX.setTailK hO (m:=kk) (by omega) Z;rw[htkk.out,List.take_of_length_le (by rw[hlh.out];omega)] at t1;rw[Nat.mul_one] at t1 t2 t3;obtain⟨W2,hW2⟩:=exE (wr.setCells g kk Z);rw[hW2] at t1 t2 t3;simp only[hW2] at hcl7;have hfin:=qH t1;have hkf:=qH (hkx.out.trans t3);have hbf:=hbw.trans t2;have hk1:(kk:Int)<=(n:Int):=(by omega);have hkn:kk < n:=(by omega);have hkc:kk < cap:=(by omega);have hk2:(kk:Int)<=(cap:Int):=(by omega);have hge:decide ((r:Int)+1 < (N2:Int))=false:=decide_eq_false (by omega);clear t1 t2 t3 hO hOh hfz hcs hZ hW2 htkk hkx hsm;replace hnn:=qH hnn;replace hcl:=qH hcl;replace hrN:=qH hrN;go_wp2;go_ret;exact⟨kk,rfl,hfin.out,hbf,hkf.out⟩
    ·simp only[decide_eq_false he] at HC;replace HC:=qH HC;rw[if_neg (fun h=>he h.symm),hc.out] at htk;have htk2:Hid (cmpw (xs.take (p+1+1))=xs.take (p+1+1)):=(by show _=_;rw[htk,<-hxt];exact(take_snoc (by rw[hlh.out];exact hlt) []).symm);clear he hc hty htk hxt;go_wp2_with fail
     go_quiet ((go_at_call 199;first|exact quietOn (HC.out _)|(refine(HC.out _).mono ?_;rintro e w' ⟨he,k,rfl⟩;exact⟨he,_,World.drewN_drewN _ _ _⟩)))
     go_wp2_with fail
     go_roundg f
     case measure=>omega
     case rel=>exact⟨p+1,_,by go_num,by omega,by omega,(by first|exact rfl|exact World.drewN_drewN _ _ _),htk2⟩
   ·obtain rfl:n=p+1:=(by omega);have hfin:=qH (hfin0.out q hc.out);obtain⟨b1,b2⟩:=hBw.out q;have b2h:=qH b2;clear hc b2;go_wp2_with fail
    go_ret;exact⟨p+1,by first|rfl|(congr 2;done),hfin.out,b1,b2h.out⟩
end Go.Proofs.YtcnedkkcgdkioaaGreat
