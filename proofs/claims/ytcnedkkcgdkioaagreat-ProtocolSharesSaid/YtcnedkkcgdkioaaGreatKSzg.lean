/- Texts of this claim, put together: PQ LSb QC QD QG QL PR PS. -/
import Derived.Test.YtcnedkkcgdkioaaGreatKSzf

set_option maxRecDepth 100000
set_option maxHeartbeats 12800000
namespace Go.Proofs.YtcnedkkcgdkioaaGreat
open Go.RowKit
theorem indexVx {w:World}{u:Value}{s:Jb}{a b:Int}(h:KS 2 w u s) :
  Calls Tryz.prog 80 #[u,.agg #[.int .i64 a,.int .i64 b]] w fun e w'=>∃z:Int,e = .returned (.int .i64 z)/\decide (0<=z)=decide ([a,b]∈s)/\Below w.heap.size w w':=by
 have hE:decide ([a,b]∈s)=s.any (vEq [a,b]):=by
  rw[Bool.eq_iff_iff,List.any_eq_true,decide_eq_true_eq];exact⟨fun h=>⟨_,h,decide_eq_true rfl⟩,fun⟨x,h1,h2⟩=>by rw[<-of_decide_eq_true h2];exact h1⟩
 rw[hE];obtain⟨va,vc,vb,vo,rfl,ha,hc,hsl⟩:=h;obtain⟨W1,hW1⟩:=exF (w.alloc (.cells #[.int .i64 a,.int .i64 b] 83));have hb1:Below w.heap.size w W1:=by rw[hW1];exact(Below.refl _ w).alloc (Nat.le_refl _) _
 have kA:W1.heap[w.heap.size]? = some (.cells #[.int .i64 a,.int .i64 b] 83):=by rw[hW1];exact heap_alloc_new _ _
 have HK:=qH (boxL2 kA);have hcl:=qH (hc.keep hb1);have h0:Hid ((s.take 0).any (vEq [a,b])=false):=rfl;clear hc kA hE;go_enter Tryz.func80, Tryz.ntmps80
 go_wp2_with fail
 rw[<-hW1];replace hW1:=qH hW1;go_loopw [8] (fun iv wr=>∃i:Nat,iv = .int .i64 i/\i<=s.length/\Hid ((s.take i).any (vEq [a,b])=false)/\Qt W1 wr) (fun iv _=>s.length - (intOf iv).toNat)
 case atStart=>exact⟨0,rfl,by omega,h0,Qt.refl _⟩
 case round=>
  clear h0;obtain⟨i,rfl,hi,ht,n,rfl⟩:=hrel;by_cases hlt:i < s.length
  ·obtain rfl:=ha (by omega);have hii:(i:Int) < (s.length:Int):=(by omega);obtain⟨x2,xi⟩:=hcl.out i hlt;obtain⟨x,hx⟩:=exE (s.getD i []);rw[hx] at x2 xi;obtain⟨p,q,rfl⟩:=two x2;obtain⟨c0,c1⟩:=xi.all2;obtain⟨z0,z1⟩:=HK.out;by_cases he : [a,b] = [p,q]
   ·have hE:eqL [a,b] [p,q]=true:=eqL_true.2 he;have hBt:Hid (s.any (vEq [a,b])=true):=any_hit hlt (by rw[hx];exact decide_eq_true he.symm);clear hx ht he xi x2;go_wp2;go_quiet (fail)
    go_wp2;go_ret;exact⟨_,rfl,by rw[hBt.out];exact decide_eq_true (by omega),btt hb1 (below_drewN (below_drewN (Below.refl _ _) _) _)⟩
   ·have hE:eqL [a,b] [p,q]=false:=eqL_false.2 he
    have ht2:Hid ((s.take (i+1)).any (vEq [a,b])=false):=by
     show _=_;rw[take_any hlt (d:=[]),ht.out,hx];exact decide_eq_false fun h=>he h.symm
    clear hx ht he xi x2;go_wp2;go_quiet (fail)
    go_wp2;go_roundw
    case rel=>exact⟨i+1,by go_num,hlt,ht2,by first|exact(Qt.mk' _ n).step nq|exact Qt.mk' _ _⟩
    case measure=>simp[intOf];omega
  ·obtain rfl:i=s.length:=(by omega);have hBf:Hid (s.any (vEq [a,b])=false):=(by have:=ht.out;rw[List.take_length] at this;exact this);clear ht;go_wp2;go_ret;exact⟨_,rfl,by rw[hBf.out];rfl,btt hb1 (below_drewN (Below.refl _ _) _)⟩
theorem containsVx {w:World}{u:Value}{s:Jb}{a b:Int}(h:KS 2 w u s) :
  Calls Tryz.prog 32 #[u,.agg #[.int .i64 a,.int .i64 b]] w fun e w'=>e = .returned (.bool (decide ([a,b]∈s)))/\Below w.heap.size w w':=by
 obtain⟨W1,hW1⟩:=exF (w.alloc (.cells #[.int .i64 a,.int .i64 b] 83));have hb1:Below w.heap.size w W1:=by rw[hW1];exact(Below.refl _ w).alloc (Nat.le_refl _) _
 have kA:W1.heap[w.heap.size]? = some (.cells #[.int .i64 a,.int .i64 b] 83):=by rw[hW1];exact heap_alloc_new _ _
 have HI:=qH (indexVx (a:=a) (b:=b) (h.keep hb1));obtain⟨z0,z1⟩:=boxL2 kA;rw[hW1] at z0 z1;obtain⟨ua,uc,rfl⟩:=h.shape;obtain⟨B,hB⟩:=exE (decide ([a,b]∈s));rw[hB] at HI|-;clear h kA hB;go_enter Tryz.func32, Tryz.ntmps32
 go_wp2_with fail
 rw[<-hW1];replace hW1:=qH hW1;refine HI.out.mono ?_;rintro e w3 ⟨z,rfl,hz,hb3⟩;go_wp2;go_ret;exact⟨rfl,btt hb1 hb3⟩
theorem in1C {w:World}{b1:Nat}{u:Value}{s:Jb}{a b:Int}(h1:w.cell? ⟨b1,0,none⟩=some u) (h:KS 2 w u s) :
  Calls Tryz.prog 179 #[.agg #[.int .i64 a,.int .i64 b],.pointer (some ⟨b1,0,none⟩)] w fun e w'=>e = .returned (.bool (decide ([a,b]∈s)))/\Below w.heap.size w w':=by
 obtain⟨W1,hW1⟩:=exF (w.alloc (.cells #[.int .i64 a,.int .i64 b] 83));have hb1:Below w.heap.size w W1:=by rw[hW1];exact(Below.refl _ w).alloc (Nat.le_refl _) _
 have kA:W1.heap[w.heap.size]? = some (.cells #[.int .i64 a,.int .i64 b] 83):=by rw[hW1];exact heap_alloc_new _ _
 have HI:=qH (containsVx (a:=a) (b:=b) (h.keep hb1));obtain⟨z0,z1⟩:=boxL2 kA;have h11:=cell_kept hb1 h1;rw[hW1] at z0 z1 h11;obtain⟨ua,uc,rfl⟩:=h.shape;obtain⟨B,hB⟩:=exE (decide ([a,b]∈s));rw[hB] at HI|-;clear h kA hB;go_enter Tryz.func179, Tryz.ntmps179
 go_wp2_with fail
 rw[<-hW1];replace hW1:=qH hW1;refine HI.out.mono ?_;rintro e w3 ⟨rfl,hb3⟩;go_wp2;go_ret;exact⟨rfl,btt hb1 hb3⟩
theorem keptIn {w:World}{b1:Nat}{u v:Value}{s t:Jb}(h1:w.cell? ⟨b1,0,none⟩=some v) (hs:KS 2 w u s) (hl:s.length<=1000) (ht:KS 2 w v t) :
  Calls Tryz.prog 113 #[u,.func (.func 179) #[] #[.pointer (some ⟨b1,0,none⟩)]] w fun e w'=>∃a c,e = .returned (.slice a (s.filter (inB t)).length c)/\Below w.heap.size w w':=by
 have HI:=qH (fun W (hb:Below w.heap.size w W) p q=>in1C (a:=p) (b:=q) (cell_kept hb h1) (ht.keep hb));obtain⟨va,vc,vb,vo,rfl,ha,hc,-⟩:=hs;have hcl:=qH hc;have h0:Hid (OwX 83 2 EI w w.heap.size (.slice none 0 0) ((s.take 0).filter (inB t)).length ((s.take 0).filter (inB t))):=OwX.nil _ _;clear hc ht h1;go_enter Tryz.func113, Tryz.ntmps113
 go_wp2_with fail
 go_loopw [5,10] (fun ov iv wr=>∃(i:Nat) (oa:Option Addr) (oc:Nat),ov = .slice oa ((s.take i).filter (inB t)).length oc/\iv = .int .i64 i/\i<=s.length/\Hid (OwX 83 2 EI wr w.heap.size (.slice oa ((s.take i).filter (inB t)).length oc) ((s.take i).filter (inB t)).length ((s.take i).filter (inB t)))/\Below w.heap.size w wr) (fun _ iv _=>s.length - (intOf iv).toNat)
 case atStart=>exact⟨0,none,0,rfl,rfl,by omega,h0,Below.refl _ _⟩
 case round=>
  clear h0;obtain⟨i,oa,oc,rfl,rfl,hi,hO,hbr⟩:=hrel;by_cases hlt:i < s.length
  ·have hii:(i:Int) < (s.length:Int):=(by omega);obtain rfl:=ha (by omega);obtain⟨x2,xi⟩:=hcl.out i hlt;have htk:=take_snoc hlt ([]:List Int);obtain⟨x,hx⟩:=exE (s.getD i []);rw[hx] at x2 xi htk;obtain⟨p,q,rfl⟩:=two x2;obtain⟨c0,c1⟩:=xi.all2;replace c0:=cell_kept hbr c0;replace c1:=cell_kept hbr c1;obtain⟨W2,hW2⟩:=exF (wr.alloc (.cells #[.int .i64 p,.int .i64 q] 83));have hb2:Below wr.heap.size wr W2:=(by rw[hW2];exact(Below.refl _ wr).alloc (Nat.le_refl _) _);have kV:W2.heap[wr.heap.size]? = some (.cells #[.int .i64 p,.int .i64 q] 83):=(by rw[hW2];exact heap_alloc_new _ _);have HKV:=qH (fun W (hb:Below W2.heap.size W2 W)=>boxL2 (keptO hb kV));obtain⟨z0,z1⟩:=boxL2 kV;rw[hW2] at z0 z1;obtain⟨C,hC⟩:=exE (decide ([p,q]∈t));have hbr2:=btt hbr hb2;have HI2:=HI.out W2 hbr2 p q;rw[hC] at HI2;replace HI2:=qH HI2;have hpl:((s.take i).filter (inB t)).length<=1000:=by have:=List.length_filter_le (inB t) (s.take i);rw[List.length_take] at this;omega
   have hfi:(s.take (i+1)).filter (inB t)=(s.take i).filter (inB t)++(if C=true then [[p,q]] else []):=by
    rw[htk,List.filter_append];congr 1
    rw[List.filter_cons,show inB t [p,q]=C from hC];cases C<;>rfl
   obtain⟨S,hS⟩:=exE ((s.take i).filter (inB t));rw[hS] at hO hpl hfi|-;have hO2:=qH (hO.out.keep (EI.stab _) hb2);replace hfi:=qH hfi;clear kV xi x2 hC htk hx hO hS;go_upto_region 5 with fail
   rw[<-hW2];replace hW2:=qH hW2;clear z0 z1 c0 c1;obtain⟨z0,z1⟩:=HKV.out W2 (Below.refl _ _);go_wp2_with fail
   refine HI2.out.mono ?_;rintro e w3 ⟨rfl,hb3⟩;clear z0 z1;obtain⟨z0,z1⟩:=HKV.out w3 hb3;have hbr3:=btt hbr2 hb3;cases C
   ·have hfe:Hid ((s.take (i+1)).filter (inB t)=S):=(by show _=_;rw[hfi.out];simp);have hO3:Hid (OwX 83 2 EI w3 w.heap.size (.slice oa ((s.take (i+1)).filter (inB t)).length oc) ((s.take (i+1)).filter (inB t)).length ((s.take (i+1)).filter (inB t))):=(by show OwX _ _ _ _ _ _ _ _;rw[hfe.out];exact hO2.out.keep (EI.stab _) hb3);have hsl:Hid (Value.slice oa S.length oc = .slice oa ((s.take (i+1)).filter (inB t)).length oc):=(by show _=_;rw[hfe.out]);go_wp2_with fail
    go_roundw
    case rel=>exact⟨i+1,oa,oc,hsl.out,by go_num,by omega,hO3,hbr3⟩
    case measure=>simp[intOf];omega
   ·have hfe:Hid ((s.take (i+1)).filter (inB t)=S ++ [[p,q]]):=hfi.out;have hoo:=hO2.out.keep (EI.stab _) hb3;have hi9:S.length<=1000000000000:=by omega
    have hc9:Hid (∀u∈(#[.int .i64 p,.int .i64 q]:Array Value).toList,u.oneCell'=true):=fun u hu=>by
     rcases List.mem_cons.1 hu with rfl|hu
     ·rfl
     ·rw[List.mem_singleton.1 hu];rfl
    have hEl:Hid (EI w3 [.int .i64 p,.int .i64 q] [p,q]):=rfl;have hsz:=hbr3.size;go_wp2_with (at_builtin;refine wpAppX (x:=[p,q]) elemVx (by decide) (by decide) (EI.stab _) rfl _ _ rfl rfl hoo rfl rfl rfl hc9.out hEl.out hi9 hsz ?_)
    intro v4 w4 ho4 hg4 hb4 hx4;obtain⟨fa,fc,hv4⟩:=ho4.shape;subst hv4;have hO3:Hid (OwX 83 2 EI w4 w.heap.size (.slice fa ((s.take (i+1)).filter (inB t)).length fc) ((s.take (i+1)).filter (inB t)).length ((s.take (i+1)).filter (inB t))):=(by show OwX _ _ _ _ _ _ _ _;rw[hfe.out,List.length_append];exact ho4);have hsl:Hid (Value.slice fa (S.length+1) fc = .slice fa ((s.take (i+1)).filter (inB t)).length fc):=(by show _=_;rw[hfe.out,List.length_append];rfl);have hbr4:=hbr3.trans hb4;clear ho4 hg4 hx4 hoo;go_wp2_with fail
    go_roundw
    case rel=>exact⟨i+1,fa,fc,hsl.out,by go_num,by omega,hO3,hbr4⟩
    case measure=>simp[intOf];omega
  ·obtain rfl:i=s.length:=(by omega);rw[List.take_length] at hO|-;clear hO;go_wp2;go_ret;exact⟨oa,oc,rfl,hbr⟩
def shB (q:Int) (t:Jb) (v:List Int):Bool:=decide (v.getD 0 0=q) && decide (v∈t)
theorem shFn {w:World}{b1 b2:Nat}{u:Value}{t:Jb}{q a b:Int}(h1:w.cell? ⟨b1,0,none⟩=some (.int .i64 q)) (h2:w.cell? ⟨b2,0,none⟩=some u) (h:KS 2 w u t) :
  Calls Tryz.prog 31 #[.agg #[.int .i64 a,.int .i64 b],.pointer (some ⟨b1,0,none⟩),.pointer (some ⟨b2,0,none⟩)] w fun e w'=>e = .returned (.bool (shB q t [a,b]))/\Below w.heap.size w w':=by
 obtain⟨W1,hW1⟩:=exF (w.alloc (.cells #[.int .i64 a,.int .i64 b] 83));have hb1:Below w.heap.size w W1:=by rw[hW1];exact(Below.refl _ w).alloc (Nat.le_refl _) _
 have kA:W1.heap[w.heap.size]? = some (.cells #[.int .i64 a,.int .i64 b] 83):=by rw[hW1];exact heap_alloc_new _ _
 have HI:=qH (containsVx (a:=a) (b:=b) (h.keep hb1));obtain⟨z0,z1⟩:=boxL2 kA;have h11:=cell_kept hb1 h1;have h12:=cell_kept hb1 h2;rw[hW1] at z0 z1 h11 h12;obtain⟨ua,uc,rfl⟩:=h.shape;have hS:shB q t [a,b]=(decide (a=q) && decide ([a,b]∈t)):=rfl;rw[hS];obtain⟨B,hB⟩:=exE (decide ([a,b]∈t));rw[hB] at HI|-;clear h kA hB hS h1 h2;by_cases he:a=q
 ·subst he;rw[decide_eq_true rfl,Bool.true_and];go_enter Tryz.func31, Tryz.ntmps31
  go_wp2_with fail
  rw[<-hW1];replace hW1:=qH hW1;refine HI.out.mono ?_;rintro e w3 ⟨rfl,hb3⟩;go_wp2;go_ret;exact⟨rfl,btt hb1 hb3⟩
 ·rw[decide_eq_false he,Bool.false_and];have hz:(a == q)=false:=beq_eq_false_iff_ne.2 he;replace he:=qH he;go_enter Tryz.func31, Tryz.ntmps31
  go_wp2_with fail
  go_ret;exact⟨rfl,by rw[<-hW1];exact hb1⟩
theorem indexSh {w:World}{b1 b2:Nat}{z u:Value}{s t:Jb}{q:Int}(hz:KS 2 w z s) (h1:w.cell? ⟨b1,0,none⟩=some (.int .i64 q)) (h2:w.cell? ⟨b2,0,none⟩=some u) (h:KS 2 w u t) :
  Calls Tryz.prog 79 #[z,.func (.func 31) #[] #[.pointer (some ⟨b1,0,none⟩),.pointer (some ⟨b2,0,none⟩)]] w fun e w'=>∃k:Int,e = .returned (.int .i64 k)/\decide (0<=k)=s.any (shB q t)/\Below w.heap.size w w':=by
 have HF:=qH (fun W (hb:Below w.heap.size w W) a b=>shFn (a:=a) (b:=b) (cell_kept hb h1) (cell_kept hb h2) (h.keep hb));obtain⟨va,vc,vb,vo,rfl,ha,hc,hsl⟩:=hz;have hcl:=qH hc;have h0:Hid ((s.take 0).any (shB q t)=false):=rfl;clear hc h1 h2 h;go_enter Tryz.func79, Tryz.ntmps79
 go_wp2_with fail
 go_loopw [8] (fun iv wr=>∃i:Nat,iv = .int .i64 i/\i<=s.length/\Hid ((s.take i).any (shB q t)=false)/\Below w.heap.size w wr) (fun iv _=>s.length - (intOf iv).toNat)
 case atStart=>exact⟨0,rfl,by omega,h0,Below.refl _ _⟩
 case round=>
  clear h0;obtain⟨i,rfl,hi,ht,hbr⟩:=hrel;by_cases hlt:i < s.length
  ·obtain rfl:=ha (by omega);have hii:(i:Int) < (s.length:Int):=(by omega);obtain⟨x2,xi⟩:=hcl.out i hlt;obtain⟨x,hx⟩:=exE (s.getD i []);rw[hx] at x2 xi;obtain⟨p,r,rfl⟩:=two x2;obtain⟨c0,c1⟩:=xi.all2;replace c0:=cell_kept hbr c0;replace c1:=cell_kept hbr c1;have hf:=HF.out wr hbr p r;obtain⟨C,hC⟩:=exE (shB q t [p,r]);rw[hC] at hf;replace hf:=qH hf;cases C
   ·have ht2:Hid ((s.take (i+1)).any (shB q t)=false):=by
     show _=_;rw[take_any hlt (d:=[]),ht.out,hx];exact hC
    clear hx ht hC xi x2;go_wp2_with fail
    refine hf.out.mono ?_;rintro e w3 ⟨rfl,hb3⟩;go_wp2_with fail
    go_roundw
    case rel=>exact⟨i+1,by go_num,hlt,ht2,btt hbr hb3⟩
    case measure=>simp[intOf];omega
   ·have hBt:Hid (s.any (shB q t)=true):=any_hit hlt (by rw[hx];exact hC);have hge:decide ((0:Int)<=(i:Int))=true:=decide_eq_true (by omega);clear hx ht hC xi x2;go_wp2_with fail
    refine hf.out.mono ?_;rintro e w3 ⟨rfl,hb3⟩;go_wp2;go_ret;exact⟨_,rfl,by rw[hBt.out];exact hge,btt hbr hb3⟩
  ·obtain rfl:i=s.length:=(by omega);have hBf:Hid (s.any (shB q t)=false):=(by have:=ht.out;rw[List.take_length] at this;exact this);clear ht;go_wp2;go_ret;exact⟨_,rfl,by rw[hBf.out];rfl,hbr⟩
theorem containsSh {w:World}{b1 b2:Nat}{z u:Value}{s t:Jb}{q:Int}(hz:KS 2 w z s) (h1:w.cell? ⟨b1,0,none⟩=some (.int .i64 q)) (h2:w.cell? ⟨b2,0,none⟩=some u) (h:KS 2 w u t) :
  Calls Tryz.prog 30 #[z,.func (.func 31) #[] #[.pointer (some ⟨b1,0,none⟩),.pointer (some ⟨b2,0,none⟩)]] w fun e w'=>e = .returned (.bool (s.any (shB q t)))/\Below w.heap.size w w':=by
 have HI:=qH (indexSh hz h1 h2 h);obtain⟨za,zc,rfl⟩:=hz.shape;obtain⟨E,hE⟩:=exE (s.any (shB q t));rw[hE] at HI|-;clear hE h1 h2 h hz;go_enter Tryz.func30, Tryz.ntmps30
 go_wp2_with fail
 refine HI.out.mono ?_;rintro e w3 ⟨k,rfl,hk,hb3⟩;go_wp2;go_ret;exact⟨rfl,hb3⟩
theorem msk_ok:((List.range 5).all fun n=>(List.range 32).all fun f=>(List.range 5).all fun q=>decide (q<=n->(bits .and .i64 (bits .andNot .i64 (fullI ((n:Int)+1)) (f:Int) / 2 ^ q) 1 == 1) = !hasI (f:Int) (q:Int)))=true:=by decide +kernel
theorem msk_bit {n:Int}{x:Ex}{q:Nat}(h1:1<=n) (h5:n<=5) (hf0:0<=fltX x) (hf1:fltX x<=31) (hq:(q:Int) < n):(bits .and .i64 (mskX n x / 2 ^ q) 1 == 1) = !hasI (fltX x) (q:Int):=by
 have:=List.all_eq_true.1 (List.all_eq_true.1 (List.all_eq_true.1 msk_ok (n.toNat - 1) (List.mem_range.2 (by omega))) (fltX x).toNat (List.mem_range.2 (by omega))) q (List.mem_range.2 (by omega))
 have:=of_decide_eq_true this (by omega)
 rw[show((n.toNat - 1:Nat):Int)+1=n by omega,show((fltX x).toNat:Int)=fltX x by omega] at this;exact this
theorem shared_iff {n r q:Nat}{x y:Ex}(hq:q < n):(simX n r x).any (shB (q:Int) (simX n r y))=(!hasI (fltX x) (q:Int) && (!hasI (fltX y) (q:Int) && decide ((x.2.2.getD r []).getD q 0=(y.2.2.getD r []).getD q 0))):=by
 rw[Bool.eq_iff_iff,List.any_eq_true];unfold shB simX;simp only[Bool.and_eq_true,decide_eq_true_eq];constructor
 ·rintro⟨v,hv,hc,ht⟩;obtain⟨p,hp,ho,rfl⟩:=simN_mem.1 hv;have hc':(p:Int)=(q:Int):=hc;obtain rfl:p=q:=by omega
  obtain⟨p',hp',ho',he⟩:=simN_mem.1 ht;injection he with e1 e2;obtain rfl:p'=p:=by omega
  injection e2 with e2 _;exact⟨ho,ho',e2⟩
 ·rintro⟨h1,h2,h3⟩;exact⟨[(q:Int),(x.2.2.getD r []).getD q 0],simN_mem.2 ⟨q,hq,h1,rfl⟩,rfl,simN_mem.2 ⟨q,hq,h2,by rw[h3]⟩⟩
end Go.Proofs.YtcnedkkcgdkioaaGreat
namespace Go.Proofs.YtcnedkkcgdkioaaGreat
open Go.RowKit
theorem insG_len {α:Type}{cmp:α->α->Int}{x:α}:∀ {l:List α},(insG cmp x l).length=l.length+1
 | []=>rfl
 | y::l=>by
  rw[insG];split
  ·rfl
  ·rw[List.length_cons,insG_len,List.length_cons]
section
variable {l:Jc} {s:Jb} {i:Nat} {out:Jc} {x:Jb}
end
end Go.Proofs.YtcnedkkcgdkioaaGreat
namespace Go.Proofs.YtcnedkkcgdkioaaGreat
open Go.RowKit
theorem putX_len {l:Jc}{s:Jb}:(putG cmpX l s).length<=l.length+1:=by
 unfold putG;split
 ·omega
 ·rw[insG_len];omega
theorem maxX_congr {l m:Jc}(h2:∀s∈l,W2 s) (h:∀x,x∈l↔x∈m):maxX l=maxX m:=by
 have h2':∀s∈m,W2 s:=fun s hs=>h2 s ((h s).2 hs);have hv:∀k:Jc,(∀s∈k,W2 s)->∀y∈maxX k,W2 y:=fun k hk y hy=>hk y (maxX_mem.1 hy).1;refine ascG_unique ordX (maxX_asc h2) (maxX_asc h2') fun x=>?_;rw[maxX_mem,maxX_mem,h x,covB_congr h]
theorem maxX_le {l:Jc}:(maxX l).length<=l.length:=by
 have hg:∀(r out:Jc),(mxPut l r out).length<=out.length+r.length:=by
  intro r;induction r with
  | nil=>intro out;simp[mxPut]
  | cons s r ih=>
   intro out;rw[mxPut,List.length_cons];have:=ih (if 0 < s.length/\covB l s=false then putG cmpX out s else out)
   have h2:=putX_len (l:=out) (s:=s);by_cases hc:0 < s.length/\covB l s=false
   ·rw[if_pos hc] at this|-;omega
   ·rw[if_neg hc] at this|-;omega
 have:=hg l []
 rw[List.length_nil,Nat.zero_add] at this;exact this
theorem orErr0 {w:World}{b:Nat}(c0:w.cell? ⟨b,0,none⟩=some (.int .i64 0)) (c1:w.cell? ⟨b,1,none⟩=some (.int .i64 0)) :
  Calls Tryz.prog 178 #[.slice (some ⟨b,0,none⟩) 2 2] w fun e w'=>e = .returned (.int .i64 0)/\w'=w:=by
 have hcl:Hid (∀i,i < 2->w.cell? ⟨b,i,none⟩=some (.int .i64 0)):=fun i hi=>by
  have:i=0\/i=1:=by omega
  rcases this with rfl|rfl
  ·exact c0
  ·exact c1
 clear c0 c1;go_enter Tryz.func178, Tryz.ntmps178
 go_wp2_with fail
 obtain⟨wq,hwq⟩:=exF (w);have hq:=qH hwq;rw[<-hwq];clear hwq;go_loopw [8] (fun iv wr=>∃i:Nat,iv = .int .i64 i/\i<=2/\wr=wq) (fun iv _=>2 - (intOf iv).toNat)
 case atStart=>exact⟨0,rfl,by omega,rfl⟩
 case round=>
  obtain⟨i,rfl,hi,rfl⟩:=hrel;by_cases hlt:i < 2
  ·have hii:(i:Int) < 2:=(by omega);have ci:=hcl.out i hlt;rw[<-hq.out] at ci;go_wp2;go_roundw
   case rel=>exact⟨i+1,by go_num,by omega,by first|rfl|trivial⟩
   case measure=>simp[intOf];omega
  ·obtain rfl:i=2:=(by omega);go_wp2;go_ret;exact⟨rfl,hq.out⟩
theorem bothGood {w:World}{u v:Value}{s t:Jb}(hs:KS 2 w u s) (ht:KS 2 w v t) (h1:chkS s=0) (h2:chkS t=0) :
  Calls Tryz.prog 112 #[u,v] w fun e w'=>e = .returned (.int .i64 0)/\Below w.heap.size w w':=by
 have HA:=qH (fun W (hb:Below w.heap.size w W)=>checkS (hs.keep hb));have HB:=qH (fun W (hb:Below w.heap.size w W)=>checkS (ht.keep hb));rw[h1] at HA;rw[h2] at HB;obtain⟨sa,sc,rfl⟩:=hs.shape;obtain⟨ta,tc,rfl⟩:=ht.shape;clear hs ht h1 h2;go_enter Tryz.func112, Tryz.ntmps112
 go_wp2_with fail
 refine(HA.out w (Below.refl _ w)).mono ?_;rintro e w1 ⟨rfl,hb1⟩;go_wp2_with fail
 refine(HB.out w1 hb1).mono ?_;rintro e w2 ⟨rfl,hb2⟩;have hb12:=btt hb1 hb2;obtain⟨W3,hW3⟩:=exF (w2.alloc (.cells #[.int .i64 0,.int .i64 0] 41));have hb3:Below w2.heap.size w2 W3:=by rw[hW3];exact(Below.refl _ w2).alloc (Nat.le_refl _) _
 have k3:W3.heap[w2.heap.size]? = some (.cells #[.int .i64 0,.int .i64 0] 41):=by rw[hW3];exact heap_alloc_new _ _
 have HO:=qH (orErr0 (boxL2 k3).1 (boxL2 k3).2);clear k3;go_wp2_with fail
 rw[<-hW3];replace hW3:=qH hW3;refine HO.out.mono ?_;rintro e w4 ⟨rfl,rfl⟩;go_wp2;go_ret;exact⟨rfl,btt hb12 hb3⟩
theorem inC {w:World}{a:Option Addr}{n c:Nat}:Calls Tryz.prog 114 #[.slice a n c] w fun e w'=>e = .returned (.func (.func 179) #[] #[.pointer (some ⟨w.heap.size,0,none⟩)])/\w'=w.alloc (.cells #[.slice a n c] 38):=by
 go_enter Tryz.func114, Tryz.ntmps114
 go_wp2;go_ret;exact⟨rfl,rfl⟩
theorem filter_len {a b:Jb}:(((a.filter (inB b)).length:Int) == (a.length:Int))=subB a b:=by
 rw[subB_all,Bool.eq_iff_iff,beq_iff_eq,List.all_eq_true,<-List.filter_eq_self];constructor
 ·intro h;have h1:(a.filter (inB b)).length=a.length:=by omega
  exact(List.filter_sublist (p:=inB b) (l:=a)).eq_of_length h1
 ·intro h;rw[h]
theorem faceC2 {w:World}{u v:Value}{s t:Jb}(hs:KS 2 w u s) (ht:KS 2 w v t) (h1:chkS s=0) (h2:chkS t=0) (hl:s.length<=8) :
  Calls Tryz.prog 63 #[u,v] w fun e w'=>e = .returned (.tuple #[.bool (subB s t),.int .i64 0])/\Below w.heap.size w w':=by
 have HB:=qH (bothGood hs ht h1 h2);have HS:=qH (fun W (hb:Below w.heap.size w W)=>And.intro (hs.keep hb) (ht.keep hb));obtain⟨sa,sc,rfl⟩:=hs.shape;obtain⟨ta,tc,rfl⟩:=ht.shape;have hfl:=filter_len (a:=s) (b:=t);obtain⟨B,hBB⟩:=exE (subB s t);rw[hBB] at hfl|-;clear hs ht h1 h2 hBB;go_enter Tryz.func63, Tryz.ntmps63
 go_wp2_with fail
 refine HB.out.mono ?_;rintro e w1 ⟨rfl,hb1⟩;go_wp2_with fail
 refine inC.mono ?_;rintro e w2 ⟨rfl,hw2⟩;have hb2:Below w1.heap.size w1 w2:=by rw[hw2];exact(Below.refl _ w1).alloc (Nat.le_refl _) _
 have k2:=cell_of_one (show w2.heap[w1.heap.size]? = some (.cells #[.slice ta t.length tc] 38) by rw[hw2];exact heap_alloc_new _ _);have hb12:=btt hb1 hb2;obtain⟨h3,h4⟩:=HS.out w2 hb12;have HK:=qH (keptIn k2 h3 (by omega) h4);replace hw2:=qH hw2;clear k2 h3 h4;go_wp2_with fail
 refine HK.out.mono ?_;rintro e w3 ⟨fa,fc,rfl,hb3⟩;go_wp2;go_ret2
 exact⟨rfl,btt hb12 hb3⟩
theorem cases1C {w:World}{b1:Nat}{u v:Value}{s t:Jb}(hc:w.cell? ⟨b1,0,none⟩=some u) (hs:KS 2 w u s) (ht:KS 2 w v t) (h1:chkS s=0) (h2:chkS t=0) (hl:s.length<=8) :
  Calls Tryz.prog 62 #[v,.pointer (some ⟨b1,0,none⟩)] w fun e w'=>e = .returned (.bool (subB s t))/\Below w.heap.size w w':=by
 have HF:=qH (faceC2 hs ht h1 h2 hl);obtain⟨sa,sc,rfl⟩:=hs.shape;obtain⟨ta,tc,rfl⟩:=ht.shape;obtain⟨B,hBB⟩:=exE (subB s t);rw[hBB] at HF|-;clear hs ht h1 h2 hBB;go_enter Tryz.func62, Tryz.ntmps62
 go_wp2_with fail
 refine HF.out.mono ?_;rintro e w1 ⟨rfl,hb1⟩;go_wp2;go_ret;exact⟨rfl,hb1⟩
attribute [local go_sem] Oper.semAt_some
theorem leavesAll2 {fn:Func}{tmps:Array Value}{R:Ending->World->Prop}{p q:Tmp}{B:Nat}(hres:fn.results = #[.tmp p,.tmp q]):∀(rs:List Nat) (w:World),(∀r∈rs,w.heap[r]? = some (.deferred (some []))/\B<=r)->rs.Nodup->
  (∀w',Below B w w'->KeepX 57 w w'->R (.returned (.tuple #[tmps.getD p undef,tmps.getD q undef])) w')->LeavesInM Fence.wide 0 Tryz.prog fn tmps R (rs.map colD) .returning w
 | [],w,_,_,h=>⟨_,results_tmp2 hres _ _ _,h w (Below.refl _ _) (KeepX.refl _ _)⟩
 | r::rs,w,hr,hn,h=>by
  rw[List.nodup_cons] at hn;obtain⟨h1,h2⟩:=hr r (by simp);refine⟨by simp,.inl ⟨r,_,rfl,run_takeDeferred h1,?_⟩⟩;have hb:Below B w (w.putObj r (.deferred none)):=below_putObj (Below.refl _ _) h2 _;have hX:KeepX 57 w (w.putObj r (.deferred none)):=KeepX.putObjLo h1 trivial;refine leavesAll2 hres rs _ (fun r' hr'=>?_) hn.2 (fun w' hw' hx'=>h w' (hb.trans hw') (hX.trans hx'));obtain⟨h3,h4⟩:=hr r' (by simp[hr']);exact⟨(World.putObj_heap_other (fun e=>hn.1 (by rw[<-e];exact hr'))).trans h3,h4⟩
def csB (N k:Nat) (xs:List Ex) (l:Jb) (c:Nat):Bool:=(simsN N k xs (c:Int)).any (subB l)
def csL (N k:Nat) (xs:List Ex) (l:Jb) (m:Nat):List Int:=natI ((List.range m).filter (csB N k xs l))
theorem csL_succ (N k:Nat) (xs:List Ex) (l:Jb) (m:Nat):csL N k xs l (m+1)=csL N k xs l m++(if csB N k xs l m=true then [(m:Int)] else []):=by
 unfold csL natI;rw[List.range_succ,List.filter_append,List.map_append];congr 1
 rw[List.filter_cons];cases csB N k xs l m<;>rfl
theorem csL_len (N k:Nat) (xs:List Ex) (l:Jb) (m:Nat):(csL N k xs l m).length<=m:=by
 unfold csL natI;rw[List.length_map];exact Nat.le_trans (List.length_filter_le _ _) (by simp)
def csE (E:Int) (l:Jb):Int:=if E ≠ 0 then E else chkS l
theorem protCases {w:World}{v u:Value}{n i o an r tn:Int}{cs:List Cs}{ss:Jc}{vs:Jb}{xs:List Ex}{l:Jb}(h:SysV w v n i o cs an ss r tn vs xs) (hl:KS 2 w u l) (hfew:fewP n i o cs an ss r=true) (hcl:cs.length<=1000000) :
  Calls Tryz.prog 16 #[v,u] w fun e w'=>∃v',e = .returned (.tuple #[v',.int .i64 (csE (verE n i o cs an ss r tn vs xs) l)])/\Ints w' v' (if csE (verE n i o cs an ss r tn vs xs) l=0 then csL n.toNat r.toNat xs l cs.length else [])/\Below w.heap.size w w':=by
 have HV:=qH (fun W (hb:Below w.heap.size w W)=>verifyC (h.keep hb) hfew);have HG:=sysG_ver h hfew;obtain⟨E,hE⟩:=exE (verE n i o cs an ss r tn vs xs);rw[hE] at HV HG|-;replace hE:=qH hE;have HCk:=qH (fun W (hb:Below w.heap.size w W)=>checkS (hl.keep hb));obtain⟨a,c,a',c',va,vc,xa,xc,rfl,-,-,hX⟩:=h;obtain⟨la,lc,rfl⟩:=hl.shape;obtain⟨VA,hVA⟩:∃VA:Array Value,VA = #[.int .i64 n,.int .i64 i,.int .i64 o,.slice a cs.length c,.int .i64 an,.slice a' ss.length c',.int .i64 r,.int .i64 tn,.slice va vs.length vc,.slice xa xs.length xc]:=⟨_,rfl⟩;obtain⟨W1,hW1⟩:=exF ((w.alloc (.cells VA 35)).alloc (.cells #[.slice la l.length lc] 38));have hb1:Below w.heap.size w W1:=by rw[hW1];exact((Below.refl _ w).alloc (Nat.le_refl _) _).alloc (by simp) _
 have hs1:W1.heap.size=w.heap.size+2:=by rw[hW1];simp
 have kL:W1.heap[w.heap.size+1]? = some (.cells #[.slice la l.length lc] 38):=by
  rw[hW1];have:=heap_alloc_new (w.alloc (.cells VA 35)) (.cells #[.slice la l.length lc] 38)
  rwa [World.size_alloc] at this
 have kS:W1.heap[w.heap.size]? = some (.cells VA 35):=by
  rw[hW1];exact(Below.heap_alloc _ _ _ (by simp)).trans (heap_alloc_new w _)
 subst hVA;have HK:=qH (fun W (hb:Below W1.heap.size W1 W)=>And.intro (cell_of_one (keptO hb kL)) (And.intro (keep7 hb (box10' kS).1) (keep3' hb (box10' kS).2)));obtain⟨pl,⟨p0,p1,p2,p3,p4,p5,p6⟩,p7,p8,p9⟩:=HK.out W1 (Below.refl _ _);rw[hW1] at pl p0 p1 p2 p3 p4 p5 p6 p7 p8 p9;replace hs1:=qH hs1;have hXh:=qH (fun W (hb:Below w.heap.size w W)=>hX.keep hb);have hlh:=qH (fun W (hb:Below w.heap.size w W)=>hl.keep hb);obtain⟨M,hM⟩:=exE (cs.length);rw[hM] at HV HK hW1 p3 hcl|-;obtain⟨F,hF⟩:=exE (csE E l);rw[hF];obtain⟨R,hR⟩:∃R,(if F=0 then csL n.toNat r.toNat xs l M else [])=R:=⟨_,rfl⟩;rw[hR];unfold csE at hF;clear kS kL hX hl hM;refine callsIn_wide.1 (callsIn_of_wp_marks (n:=0) Tryz.func16 rfl trivial ?_);simp only[Tryz.ntmps16,List.size_toArray,List.length_cons,List.length_nil,Nat.reduceAdd,Nat.reduceSub,Array.replicate_succ,Array.replicate_zero,List.push_toArray,List.append_toArray,List.nil_append,List.cons_append];refine wpIn_wide.2 ?_;go_wp2_with fail
 rw[<-hW1];replace hW1:=qH hW1;refine(HV.out W1 hb1).mono ?_;rintro e w2 ⟨rfl,hb2⟩;clear pl p0 p1 p2 p3 p4 p5 p6 p7 p8 p9;obtain⟨pl,⟨p0,p1,p2,p3,p4,p5,p6⟩,p7,p8,p9⟩:=HK.out w2 hb2;have hb12:=btt hb1 hb2;by_cases hz:E=0
 ·subst hz;rw[if_neg (fun h=>h rfl)] at hF;obtain⟨-,-,-,hr6,hG⟩:=HG rfl;clear HG;go_wp2_with fail
  refine(HCk.out w2 hb12).mono ?_;rintro e w3 ⟨rfl,hb3⟩;clear pl p0 p1 p2 p3 p4 p5 p6 p7 p8 p9;obtain⟨pl,⟨p0,p1,p2,p3,p4,p5,p6⟩,p7,p8,p9⟩:=HK.out w3 (btt hb2 hb3);have hb13:=btt hb12 hb3;by_cases hf:F=0
  ·have hc0:=hF;rw[hf] at hc0;subst hf;rw[if_pos rfl] at hR;rw[hF];have hls:=(chkS_ok hc0).2.1;obtain⟨W7,hW7⟩:=exF (w3.alloc (.cells #[.slice none 0 0] 48));have hb37:Below w3.heap.size w3 W7:=(by rw[hW7];exact(Below.refl _ w3).alloc (Nat.le_refl _) _);have k7:W7.heap[w3.heap.size]? = some (.cells #[.slice none 0 0] 48):=(by rw[hW7];exact heap_alloc_new _ _);have HK3:=qH (fun W (hb:Below w3.heap.size w3 W)=>HK.out W (btt (btt hb2 hb3) hb));have hb3w:Hid (Below w.heap.size w w3):=hb13;have hlv:=qH (fun W (hb:Below w3.heap.size w3 W)=>hlh.out W (btt hb13 hb));have hXv:=qH (fun W (hb:Below w3.heap.size w3 W)=>hXh.out W (btt hb13 hb));have hI0:Hid (OI W7 w3.heap.size (.slice none 0 0) (csL n.toNat r.toNat xs l 0).length (csL n.toNat r.toNat xs l 0)):=OI.nil _ _;have hc0h:=qH hc0;obtain⟨p0',⟨q0,q1,q2,q3,q4,q5,q6⟩,q7,q8,q9⟩:=HK3.out W7 hb37;clear pl p0 p1 p2 p3 p4 p5 p6 p7 p8 p9;rw[hW7] at p0' q0 q1 q2 q3 q4 q5 q6 q7 q8 q9;clear hb13 hb12 hb2 hb3 hc0;go_wp2_with fail
   rw[<-hW7];replace hW7:=qH hW7;clear p0' q0 q1 q2 q3 q4 q5 q6 q7 q8 q9
   refine wp_loop (fun a0 W=>∃(u9 u10 u11 u12 u13 u14 u15 u16 u17 u18 u19 u20 u21 u22 u23 u24 u25 u28 u29 u30 u31 u32 u33 u34 u35 u36 u37 u38 u39 u40 u41 u42 u43:Value) (q:Nat) (rs:List Nat) (oa:Option Addr) (oc:Nat),q<=M/\W.heap[w3.heap.size]? = some (.cells #[.slice oa (csL n.toNat r.toNat xs l q).length oc] 48)/\OI W w3.heap.size (.slice oa (csL n.toNat r.toNat xs l q).length oc) (csL n.toNat r.toNat xs l q).length (csL n.toNat r.toNat xs l q)/\(∀r∈rs,W.heap[r]? = some (.deferred (some []))/\w3.heap.size<=r)/\rs.Nodup/\Below w3.heap.size w3 W/\
    a0 = { tmps:=#[.agg #[.int .i64 n,.int .i64 i,.int .i64 o,.slice a M c,.int .i64 an,.slice a' ss.length c',.int .i64 r,.int .i64 tn,.slice va vs.length vc,.slice xa xs.length xc],.slice la l.length lc,.pointer (some ⟨w.heap.size,0,none⟩),.pointer (some ⟨w.heap.size+1,0,none⟩),.slice none 0 0,.int .i64 0,.int .i64 0,.int .i64 0,.pointer (some ⟨w3.heap.size,0,none⟩),u9,u10,u11,u12,u13,u14,u15,u16,u17,u18,u19,u20,u21,u22,u23,u24,u25,.int .i64 (M:Int),.int .i64 (q:Int),u28,u29,u30,u31,u32,u33,u34,u35,u36,u37,u38,u39,u40,u41,u42,u43],defers:=rs.map colD }) (fun a0 _=>M - (intOf (a0.tmps.getD 27 undef)).toNat) ?_ ?_
   ·exact⟨_,_,_,_,_,_,_,_,_,_,_,_,_,_,_,_,_,_,_,_,_,_,_,_,_,_,_,_,_,_,_,_,_,0,[],none,0,Nat.zero_le _,k7,hI0.out,by simp,List.nodup_nil,hb37,rfl⟩
   clear hI0 k7 hb37;rintro a0 wr ⟨u9,u10,u11,u12,u13,u14,u15,u16,u17,u18,u19,u20,u21,u22,u23,u24,u25,u28,u29,u30,u31,u32,u33,u34,u35,u36,u37,u38,u39,u40,u41,u42,u43,q,rs,oa,oc,hq,hbx,hO,hrs,hnd,hbr,rfl⟩;obtain⟨C,hC⟩:=exE (csL n.toNat r.toNat xs l q);have hCl:C.length<=q:=(by rw[<-hC];exact csL_len _ _ _ _ _);rw[hC] at hbx hO;by_cases hlt:q < M
   ·have hqi:(q:Int) < (M:Int):=(by omega);obtain⟨pl,⟨p0,p1,p2,p3,p4,p5,p6⟩,p7,p8,p9⟩:=HK3.out wr hbr;obtain⟨W4,hW4⟩:=exF ((wr.alloc (.cells #[.int .i64 (q:Int)] 3)).alloc (.cells #[.func (.func 62) #[] #[.pointer (some ⟨w.heap.size+1,0,none⟩)]] 47));have hb4:Below wr.heap.size wr W4:=(by rw[hW4];exact((Below.refl _ wr).alloc (Nat.le_refl _) _).alloc (by simp) _);have hs4:W4.heap.size=wr.heap.size+2:=by rw[hW4];simp
    have kI:W4.heap[wr.heap.size]? = some (.cells #[.int .i64 (q:Int)] 3):=by
     rw[hW4];exact(Below.heap_alloc _ _ _ (by simp)).trans (heap_alloc_new wr _)
    have kFn:W4.heap[wr.heap.size+1]? = some (.cells #[.func (.func 62) #[] #[.pointer (some ⟨w.heap.size+1,0,none⟩)]] 47):=by
     rw[hW4];have:=heap_alloc_new (wr.alloc (.cells #[.int .i64 (q:Int)] 3)) (.cells #[.func (.func 62) #[] #[.pointer (some ⟨w.heap.size+1,0,none⟩)]] 47)
     rwa [World.size_alloc] at this
    go_upto_region 12 with fail
    rw[<-hW4];replace hW4:=qH hW4;clear pl p0 p1 p2 p3 p4 p5 p6 p7 p8 p9;have hbr4:Below w3.heap.size w3 W4:=btt hbr hb4;obtain⟨pl,⟨p0,p1,p2,p3,p4,p5,p6⟩,p7,p8,p9⟩:=HK3.out W4 hbr4;have zi:=cell_of_one kI;go_wp2_with fail
    refine(simplicesC rfl).mono ?_;rintro e W5 ⟨rfl,hW5⟩;rw[hs4];have hb45:Below W4.heap.size W4 W5:=(by rw[hW5];exact((Below.refl _ W4).alloc (Nat.le_refl _) _).alloc (by simp) _);have hs5:W5.heap.size=W4.heap.size+2:=(by rw[hW5];simp);have kS5:=heap_alloc_new W4 (.cells #[.int .i64 n,.int .i64 i,.int .i64 o,.slice a M c,.int .i64 an,.slice a' ss.length c',.int .i64 r,.int .i64 tn,.slice va vs.length vc,.slice xa xs.length xc] 35);replace kS5:=(Below.heap_alloc _ (.cells #[.int .i64 (q:Int)] 3) _ (by simp)).trans kS5;rw[<-hW5] at kS5
    have kI5:W5.heap[W4.heap.size+1]? = some (.cells #[.int .i64 (q:Int)] 3):=by
     rw[hW5];have:=heap_alloc_new (W4.alloc (.cells #[.int .i64 n,.int .i64 i,.int .i64 o,.slice a M c,.int .i64 an,.slice a' ss.length c',.int .i64 r,.int .i64 tn,.slice va vs.length vc,.slice xa xs.length xc] 35)) (.cells #[.int .i64 (q:Int)] 3)
     rwa [World.size_alloc] at this
    have hbr5:Below w3.heap.size w3 W5:=btt hbr4 hb45;have hbrr5:Below wr.heap.size wr W5:=btt hb4 hb45;have hrd:svRd W4.heap.size (W4.heap.size+1) xa xc xs (q:Int) W5:=⟨(box10' kS5).2.2.2,cell_of_one kI5,hXv.out W5 hbr5⟩;have hseq:=simSeq (b1:=W4.heap.size) (b2:=W4.heap.size+1) (xc:=xc) (xa:=xa) (idx:=(q:Int)) hG.n1 hG.n5 hG.r9 hG.ex (by have:=hG.xl;omega);have hsm:=simsN_sm (idx:=(q:Int)) hG.ok hG.n5 hG.vl;have hsucc:=csL_succ n.toNat r.toNat xs l q;unfold csB at hsucc;rw[hC] at hsucc;obtain⟨L,hL⟩:=exE (simsN n.toNat r.toNat xs (q:Int));rw[hL] at hseq hsm hsucc;have hbx5:=keptO hbrr5 hbx;have hO5:=hO.keep hbrr5;have hw3r:w3.heap.size < wr.heap.size:=(Array.getElem?_eq_some_iff.1 hbx).1
    have hrs5:∀r∈rs,W5.heap[r]? = some (.deferred (some []))/\w3.heap.size<=r/\r < W5.heap.size:=fun r hr=>by
     have h1:=(Array.getElem?_eq_some_iff.1 (hrs r hr).1).1;exact⟨(hbrr5.block r h1).trans (hrs r hr).1,(hrs r hr).2,Nat.lt_of_lt_of_le h1 hbrr5.size⟩
    have hI0:Below W5.heap.size W5 W5/\∀x∈([]:List Sv),subB l x.2=false:=⟨Below.refl _ _,by simp⟩;have kF5:=keptO hb45 kFn;have kQ5:=keptO hb45 kI;rw[hs4] at hrd hseq hs5;replace hW5:=qH hW5;replace hs4:=qH hs4;clear pl p0 p1 p2 p3 p4 p5 p6 p7 p8 p9 zi kS5 kI5 kI kFn hL hbx hO hrs hb4 hb45 hbr4;go_wp2_with fail
    refine wpIn_wide.1 (wpIn_rfA (gf:=115) (lb:=#[.pointer (some ⟨wr.heap.size+2,0,none⟩),.pointer (some ⟨wr.heap.size+2+1,0,none⟩)]) rfl (enters_of Tryz.func115 (by kernel_rfl) rfl) hseq (fun _=>rfl)
     (fun pre W=>Below W5.heap.size W5 W/\∀x∈pre,subB l x.2=false)
     (fun cd pre W=>cd = .exit 2/\L.any (subB l)=true/\(∃oa' oc',W.heap[w3.heap.size]? = some (.cells #[.slice oa' (C.length+1) oc'] 48)/\OI W w3.heap.size (.slice oa' (C.length+1) oc') (C.length+1) (C ++ [(q:Int)]))/\Below w3.heap.size W5 W/\W5.heap.size<=W.heap.size/\∀r∈rs,W.heap[r]? = some (.deferred (some [])))
     (fun pre W k o o' hk _ h hq ho=>⟨below_putObj h.1 hk _,h.2⟩) ?ix (fun pre W W' h hb=>⟨btt h.1 hb,h.2⟩) (fun pre x W k o o' hk _ h hq ho=>h.putObj hq ho)
     (fun pre W h=>hrd.keep h.1) hI0 (fun x t=>(t.setIfInBounds 34 x.1).setIfInBounds 11 x.1) ?assign ?body ?done ?stop)
    case ix=>
     rintro cd pre W k o o' hk _ ⟨h1,h2,⟨oa',oc',h3,h4⟩,h5,h6,h7⟩ hq ho;refine⟨h1,h2,⟨oa',oc',(World.putObj_heap_other (by omega)).trans h3,h4.other (E:=57) (by decide) (KeepX.putObjLo hq ho)⟩,below_putObj h5 (by have:=hbr5.size;omega) _,by simpa using h6,fun r hr=>?_⟩;exact(World.putObj_heap_other (by have:=(hrs5 r hr).2.2;omega)).trans (h7 r hr)
    case assign=>
     intro l' x W K hK;simp only[List.setIfInBounds_toArray,List.set_cons_succ,List.set_cons_zero] at hK;simp only[svEnc];gi_wp2;exact hK
    case body=>
     rintro l' pre ⟨xv,x⟩ W ⟨hbW,hpre⟩ ⟨hOx,h0x,rest,hrest⟩;simp only at hOx h0x hrest
     obtain⟨sa,sc,hsh⟩:=hOx.shape;subst hsh;simp only[List.setIfInBounds_toArray,List.set_cons_succ,List.set_cons_zero];have hxL:x∈L:=(by rw[<-hrest];simp);obtain⟨hxv,hxs⟩:=hsm x hxL;have hb3W:Below w3.heap.size w3 W:=btt hbr5 hbW;have HC1:=qH (cases1C (HK3.out W hb3W).1 (hlv.out W hb3W) (hOx.ks (by have:=hxs.2.1;omega)) hc0h.out (chkS_zero hxs) hls);have cf:=cell_of_one (keptO hbW kF5);obtain⟨D,hD⟩:=exE (subB l x);rw[hD] at HC1;clear hxv hxs hOx hrest;gi_wp2;refine⟨trivial,rfl,?_⟩;gi_at_call 62
     refine(CallsIn.inRound l' (callsIn_wide.2 HC1.out)).mono ?_;rintro e W6 ⟨rfl,hb6⟩;have hbW6:Below W5.heap.size W5 W6:=btt hbW hb6;cases D
     ·have hpre2:∀y∈pre ++ [((.slice sa x.length sc,x):Sv)],subB l y.2=false:=fun y hy=>by
       rcases List.mem_append.1 hy with h|h
       ·exact hpre y h
       ·rw[List.mem_singleton.1 h];exact hD
      have hKL:=KeepL.below hb6;replace hpre2:=qH hpre2;clear cf hpre;gi_wp2;exact⟨hKL,hbW6,hpre2.out⟩
     ·have hany:L.any (subB l)=true:=List.any_eq_true.2 ⟨x,hxL,hD⟩;have hbx6:=keptO hbW6 hbx5;have hO6:=hO5.keep hbW6;have kq6:=cell_of_one (keptO hbW6 kQ5);have kb6:=cell_of_one hbx6;obtain⟨W7',hW7'⟩:∃W7',W7'=W6.alloc (.cells #[.int .i64 (q:Int)] 3):=⟨_,rfl⟩;have hb7:Below W6.heap.size W6 W7':=(by rw[hW7'];exact(Below.refl _ W6).alloc (Nat.le_refl _) _);have kN:=show W7'.heap[W6.heap.size]? = some (.cells #[.int .i64 (q:Int)] 3) by rw[hW7'];exact heap_alloc_new _ _
      have hB6:w3.heap.size<=W7'.heap.size:=Nat.le_trans hbr5.size (Nat.le_trans hbW6.size hb7.size);obtain⟨v8,w8,happ,hO8,hg8,-,hb8,hx8⟩:=run_appX (P:=Tryz.prog) (ty:=48) elemInt1 (by decide) (by decide) (E1I.stab _) (hO6.keep hb7).owx ⟨W6.heap.size,0,none⟩ 1 rfl (World.news_of_block kN) (fun u hu=>by rw[List.mem_singleton.1 hu];rfl) (show E1I W7' [.int .i64 (q:Int)] (q:Int) from rfl) (by omega) hB6;have hO8:=hO8.oi;obtain⟨oa',oc',hv8⟩:=hO8.shape;subst hv8;have hbx7:=keptO hb7 hbx6;have hbx8:=(hx8 _ _ _ hbx7 (by decide)).trans hbx7;have kb8:=cell_of_one hbx8;have fz8:=row_free0 hbx8
      have hKL:KeepL W (w8.setCell ⟨w3.heap.size,0,none⟩ (.slice oa' (C.length+1) oc')):=
       (((KeepL.below hb6).trans (KeepL.below hb7)).trans (KeepL.grown hg8 fun g hg=>by
        obtain⟨vs,q1,_⟩:=(hO6.keep hb7).owx;obtain⟨cs,hc⟩:=ownsRow_ty q1 g hg;exact⟨cs,_,hc⟩)).trans (KeepL.setCell (p:=⟨w3.heap.size,0,none⟩) hbx8 _)
      have hsz5:=hbr5.size;have hIx:(∃oa' oc',(w8.setCell ⟨w3.heap.size,0,none⟩ (.slice oa' (C.length+1) oc')).heap[w3.heap.size]? = some (.cells #[.slice oa' (C.length+1) oc'] 48)/\OI (w8.setCell ⟨w3.heap.size,0,none⟩ (.slice oa' (C.length+1) oc')) w3.heap.size (.slice oa' (C.length+1) oc') (C.length+1) (C ++ [(q:Int)]))->True:=fun _=>trivial
      have hfin:Hid ((∃oa'' oc'',(w8.setCell ⟨w3.heap.size,0,none⟩ (.slice oa' (C.length+1) oc')).heap[w3.heap.size]? = some (.cells #[.slice oa'' (C.length+1) oc''] 48)/\OI (w8.setCell ⟨w3.heap.size,0,none⟩ (.slice oa' (C.length+1) oc')) w3.heap.size (.slice oa'' (C.length+1) oc'') (C.length+1) (C ++ [(q:Int)]))/\Below w3.heap.size W5 (w8.setCell ⟨w3.heap.size,0,none⟩ (.slice oa' (C.length+1) oc'))/\W5.heap.size<=(w8.setCell ⟨w3.heap.size,0,none⟩ (.slice oa' (C.length+1) oc')).heap.size/\∀r∈rs,(w8.setCell ⟨w3.heap.size,0,none⟩ (.slice oa' (C.length+1) oc')).heap[r]? = some (.deferred (some []))):=by
       refine⟨⟨oa',oc',heap_setCell_same w8 w3.heap.size 0 _ _ _ hbx8,hO8.other (E:=48) (by decide) (KeepX.setCell (p:=⟨w3.heap.size,0,none⟩) hbx8 _)⟩,?_,?_,fun r hr=>?_⟩
       ·exact((((hbW6.mono hsz5)).trans (hb7.mono (by have:=hbW6.size;omega))).trans hb8).setCell (p:=⟨w3.heap.size,0,none⟩) (Nat.le_refl _) _
       ·have h1:=hKL.size;have h2:=hbW.size;omega
       ·exact hKL.objs r _ ((KeepL.below hbW).objs r _ (hrs5 r hr).1 trivial) trivial
      have hKL:=qH hKL;rw[hW7'] at happ;clear cf hpre hIx hO8 hg8 hb8 hx8 hbx6 hbx7 hbx8 hO6 kN hb7;gi_wp2_with (refine wpListIn_rA rfl _ _ rfl rfl rfl happ ?_)
      exact⟨hKL.out,rfl,hany,hfin.out⟩
    case done=>
     intro d ys W hS ⟨hbW,hall⟩ hd hdef
     have hLf:L.any (subB l)=false:=by
      rw[Bool.eq_false_iff];intro h;obtain⟨x,hx,hxs⟩:=List.any_eq_true.1 h;rw[<-hS] at hx;obtain⟨y,hy,rfl⟩:=List.mem_map.1 hx;rw[hall y hy] at hxs;cases hxs
     rw[hLf,if_neg (by decide),List.append_nil] at hsucc;have hbx6:=keptO hbW hbx5;have hO6:=hO5.keep hbW;have hbr6:=btt hbr5 hbW;have hdg:w3.heap.size<=d:=Nat.le_trans hbr5.size hd
     have hrs6:Hid (∀r∈d::rs,W.heap[r]? = some (.deferred (some []))/\w3.heap.size<=r):=fun r hr=>by
      rcases List.mem_cons.1 hr with rfl|hr
      ·exact⟨hdef,hdg⟩
      ·obtain⟨h1,h2,h3⟩:=hrs5 r hr;exact⟨(hbW.block r h3).trans h1,h2⟩
     have hnd6:Hid (d::rs).Nodup:=by
      show List.Nodup _;rw[List.nodup_cons];exact⟨fun hr=>by have:=(hrs5 d hr).2.2;omega,hnd⟩
     rw[<-hsucc] at hbx6 hO6;have hk6:=qH (And.intro hbx6 hO6);have hqw:IntKind.i64.wrap ((q:Int)+1)=(q:Int)+1:=IntWalk.i64_in _ (by omega);clear hbx6 hO6 hbx5 hO5 hrs5 hdef hall;go_wp2;refine⟨⟨_,_,_,_,_,_,_,_,_,_,_,_,_,_,_,_,_,_,_,_,_,_,_,_,_,_,_,_,_,_,_,_,_,q+1,d::rs,oa,oc,hlt,?_,hk6.out.2,hrs6.out,hnd6.out,hbr6,rfl⟩,?_⟩
     ·exact hk6.out.1
     ·simp[intOf];omega
    case stop=>
     rintro d cd pre W ⟨rfl,hany,⟨oa',oc',k1,h1⟩,hbW,hsz,hrsW⟩ hd hdef;rw[hany,if_pos rfl] at hsucc;have hbr6:=hbr5.trans hbW;have hdg:w3.heap.size<=d:=Nat.le_trans hbr5.size hd
     have hrs6:Hid (∀r∈d::rs,W.heap[r]? = some (.deferred (some []))/\w3.heap.size<=r):=fun r hr=>by
      rcases List.mem_cons.1 hr with rfl|hr
      ·exact⟨hdef,hdg⟩
      ·exact⟨hrsW r hr,(hrs5 r hr).2.1⟩
     have hnd6:Hid (d::rs).Nodup:=by
      show List.Nodup _;rw[List.nodup_cons];exact⟨fun hr=>by have:=(hrs5 d hr).2.2;omega,hnd⟩
     have hlen:(csL n.toNat r.toNat xs l (q+1)).length=C.length+1:=(by rw[hsucc,List.length_append];rfl);rw[<-hlen,<-hsucc] at h1;rw[<-hlen] at k1;have hk6:=qH (And.intro k1 h1);have hqw:IntKind.i64.wrap ((q:Int)+1)=(q:Int)+1:=IntWalk.i64_in _ (by omega);clear k1 h1 hbx5 hO5 hrs5 hdef hrsW hlen;refine wpIn_wide.2 ?_;go_wp2;refine⟨⟨_,_,_,_,_,_,_,_,_,_,_,_,_,_,_,_,_,_,_,_,_,_,_,_,_,_,_,_,_,_,_,_,_,q+1,d::rs,oa',oc',hlt,hk6.out.1,hk6.out.2,hrs6.out,hnd6.out,hbr6,rfl⟩,?_⟩;simp[intOf];omega
   ·obtain rfl:q=M:=(by omega);have hOi:=hO;have zb:=cell_of_one hbx;rw[hC] at hR;have hbf:Hid (Below w.heap.size w wr):=btt hb3w.out hbr;subst hR;replace hrs:=qH hrs;replace hnd:=qH hnd;replace hOi:=qH hOi;clear hO hbx hbr;go_wp2;refine leavesAll2 (B:=w3.heap.size) rfl rs wr hrs.out hnd.out (fun w' hw' hx'=>⟨_,rfl,?_,?_⟩)
    ·exact OI.intsE (hOi.out.other (E:=57) (by decide) hx') (by omega)
    ·exact hbf.out.trans (hw'.mono (by have:=hb3w.out.size;omega))
  ·rw[if_neg hf] at hR;subst hR;rw[hF];have hF0:(F == 0)=false:=(by simpa using hf);replace hf:=qH hf;replace hF:=qH hF;go_wp2;exact leavesAll2 (B:=w3.heap.size) rfl [] _ (by simp) List.nodup_nil (fun w' hw' _=>⟨_,rfl,Ints.nil _ _ _,btt hb13 hw'⟩)
 ·rw[if_pos hz] at hF;subst hF;rw[if_neg hz] at hR;subst hR;have hE0:(E == 0)=false:=by simpa using hz
  replace hz:=qH hz;clear HG;go_wp2;exact leavesAll2 (B:=w2.heap.size) rfl [] _ (by simp) List.nodup_nil (fun w' hw' _=>⟨_,rfl,Ints.nil _ _ _,btt hb12 hw'⟩)
end Go.Proofs.YtcnedkkcgdkioaaGreat
