/- Texts of this claim, put together: TC TD TE. -/
import Derived.Test.YtcnedkkcgdkioaaGreatKAf

set_option maxRecDepth 100000
set_option maxHeartbeats 12800000
namespace Go.Proofs.YtcnedkkcgdkioaaGreat
open Go.RowKit
theorem Ints.shape {w:World}{v:Value}{xs:List Int}(h:Ints w v xs):∃a c,v = .slice a xs.length c:=by obtain⟨a,c,_,_,h,_⟩:=h;exact⟨a,c,h⟩
theorem Intss.shape {w:World}{v:Value}{xs:List (List Int)}(h:Intss w v xs):∃a c,v = .slice a xs.length c:=by obtain⟨a,c,_,_,h,_⟩:=h;exact⟨a,c,h⟩
theorem hasOne {w:World}{u vv:Value}{bv:Nat}{x y:List Int}(hx:Ints w u y) (cv:w.cell? ⟨bv,0,none⟩=some vv) (hv:Ints w vv x) :
  Calls Tryz.prog 222 #[u,.pointer (some ⟨bv,0,none⟩)] w fun e w'=>e = .returned (.bool (decide (y=x)))∧Below w.heap.size w w':=by
 have HE:=qH (eqInts hx hv);obtain⟨ua,uc,hu⟩:=hx.shape;obtain⟨va,vc,hvv⟩:=hv.shape;subst hu hvv;obtain⟨A,hA⟩:∃A,decide (y=x)=A:=⟨_,rfl⟩;rw[hA] at HE⊢;replace hA:=qH hA;clear hx hv;go_enter Tryz.func222, Tryz.ntmps222
 go_wp2_with fail
 refine HE.out.mono ?_;rintro e w' ⟨rfl,hq⟩;have hb:=hq.below;go_wp2;go_ret;exact⟨rfl,hb⟩
theorem hasIndex {w:World}{u vv:Value}{bv:Nat}{xs:List (List Int)}{x:List Int}(hx:Intss w u xs) (cv:w.cell? ⟨bv,0,none⟩=some vv) (hv:Ints w vv x) :
  Calls Tryz.prog 249 #[u,.func (.func 222) #[] #[.pointer (some ⟨bv,0,none⟩)]] w fun e w'=>∃z:Int,e = .returned (.int .i64 z)∧decide (0≤z)=decide (x∈xs)∧Below w.heap.size w w':=by
 obtain⟨xa,xc,xb,xo,rfl,hxa,hxc,hxl⟩:=hx;replace hxc:=qH hxc;have h0:Hid (x ∉ xs.take 0):=by show ¬_;simp
 have hvh:=qH hv;obtain⟨va,vc,hvv⟩:=hv.shape;subst hvv;clear hv;go_enter Tryz.func249, Tryz.ntmps249
 go_wp2_with fail
 go_loopw [8] (fun iv wr=>∃i:Nat,iv = .int .i64 i∧i≤xs.length∧Hid (x ∉ xs.take i)∧Below w.heap.size w wr) (fun iv _=>xs.length - (intOf iv).toNat)
 case atStart=>exact⟨0,rfl,by omega,h0,Below.refl _ _⟩
 case round=>
  clear h0;obtain⟨i,rfl,hi,hno,hbr⟩:=hrel;by_cases hlt:i < xs.length
  ·obtain rfl:=hxa (by omega);obtain⟨xu,hxi,hxk⟩:=hxc.out i hlt;obtain⟨y,hy⟩:=exE (xs.getD i []);rw[hy] at hxk;have c0:=cell_kept hbr hxi;have HC:=hasOne (hxk.keep hbr) (cell_kept hbr cv) (hvh.out.keep hbr);have hmem:y∈xs:=(by rw[←hy,getD_eq hlt];exact List.getElem_mem hlt);have htk:xs.take (i+1)=xs.take i ++ [y]:=(by rw[take_snoc hlt [],hy]);obtain⟨xsa,xsc,hxs⟩:=hxk.shape;subst hxs;clear hxk hy hxi;by_cases he:y=x
   ·rw[decide_eq_true he] at HC;replace HC:=qH HC;have hres:Hid (decide (x∈xs)=true):=(by show _=_;rw[←he];exact decide_eq_true hmem);have h0i:decide ((0:Int)≤(i:Int))=true:=decide_eq_true (by omega);clear htk hmem he hno;go_wp2_with fail
    refine HC.out.mono ?_;rintro e w' ⟨rfl,hb⟩;have hbn:=btt hbr hb;go_wp2;go_ret;exact⟨_,rfl,by rw[hres.out];exact h0i,hbn⟩
   ·rw[decide_eq_false he] at HC;replace HC:=qH HC
    have hnx:Hid (x ∉ xs.take (i+1)):=by
     show ¬_;rw[htk,List.mem_append,List.mem_singleton];exact fun h=>h.elim hno.out fun h=>he h.symm
    clear htk hmem he hno;go_wp2_with fail
    refine HC.out.mono ?_;rintro e w' ⟨rfl,hb⟩;have hbn:=btt hbr hb;go_wp2;go_roundw
    case rel=>exact⟨i+1,by go_num,hlt,hnx,hbn⟩
    case measure=>simp[intOf];omega
  ·have hres:Hid (decide (x∈xs)=false):=by
    show _=_;have:=hno.out
    rw[List.take_of_length_le (by omega)] at this;exact decide_eq_false this
   clear hno;go_wp2;go_ret;exact⟨_,rfl,by rw[hres.out];rfl,hbr⟩
theorem hasContains {w:World}{u vv:Value}{bv:Nat}{xs:List (List Int)}{x:List Int}(hx:Intss w u xs) (cv:w.cell? ⟨bv,0,none⟩=some vv) (hv:Ints w vv x) :
  Calls Tryz.prog 221 #[u,.func (.func 222) #[] #[.pointer (some ⟨bv,0,none⟩)]] w fun e w'=>e = .returned (.bool (decide (x∈xs)))∧Below w.heap.size w w':=by
 have HI:=hasIndex hx cv hv;obtain⟨A,hA⟩:=exE (decide (x∈xs));rw[hA] at HI⊢;replace HI:=qH HI;clear hA;obtain⟨ua,uc,hu⟩:=hx.shape;subst hu;clear hx hv;go_enter Tryz.func221, Tryz.ntmps221
 go_wp2_with fail
 refine HI.out.mono ?_;rintro e w' ⟨z,rfl,hz,hw'⟩;go_wp2;go_ret;exact⟨rfl,hw'⟩
theorem hasC {w:World}{u v:Value}{l:List (List Int)}{x:List Int}(hx:Intss w u l) (hv:Ints w v x) :
  Calls Tryz.prog 193 #[u,v] w fun e w'=>e = .returned (.bool (decide (x∈l)))∧Below w.heap.size w w':=by
 obtain⟨va,vc,hvv⟩:=hv.shape;subst hvv;obtain⟨W1,hW1⟩:=exF (w.alloc (.cells #[.slice va x.length vc] 48));have hb1:Below w.heap.size w W1:=by rw[hW1];exact(Below.refl _ _).alloc (Nat.le_refl _) _
 have k1:W1.heap[w.heap.size]? = some (.cells #[.slice va x.length vc] 48 (0,0)):=by rw[hW1];exact heap_alloc_new _ _
 have HC:=qH (hasContains (hx.keep hb1) (cell_of_one k1) (hv.keep hb1));obtain⟨ua,uc,hu⟩:=hx.shape;subst hu;obtain⟨A,hA⟩:=exE (decide (x∈l));rw[hA] at HC⊢;clear hx hv hA k1;go_enter Tryz.func193, Tryz.ntmps193
 go_wp2_with fail
 rw[←hW1];replace hW1:=qH hW1;refine HC.out.mono ?_;rintro e w' ⟨rfl,hb2⟩;have hb:=btt hb1 hb2;go_wp2;go_ret;exact⟨rfl,hb⟩
theorem firstE_step {f:Nat→Int}{m k:Nat}{F:Int}(h:firstE f (m+1) k=F) (h0:f k=0):firstE f m (k+1)=F:=by rw[firstE,if_neg (fun g=>g h0)] at h;exact h
theorem firstE_stop {f:Nat→Int}{m k:Nat}{F:Int}(h:firstE f (m+1) k=F) (h0:f k ≠ 0):f k=F:=by rw[firstE,if_pos h0] at h;exact h
theorem outE_eq {n o:Int}{l:List (List Int)}{k:Nat}:outE n o l k=if vecE (l.getD k []) n o ≠ 0 then vecE (l.getD k []) n o else if unordB l k=true then 14 else 0:=by
 unfold outE unordB;simp only[decide_eq_true_eq]
theorem calmE_eq {o l:List (List Int)}{k:Nat}:calmE o l k=if decide (l.getD k []∈o)=false then 6 else if unordB l k=true then 14 else 0:=by
 unfold calmE unordB;simp only[decide_eq_true_eq,decide_eq_false_iff_not]
theorem Intss.at {w:World}{a:Option Addr}{c:Nat}{l:List (List Int)}(h:Intss w (.slice a l.length c) l) (h0:0 < l.length):∃b off,a=some ⟨b,off,none⟩∧∀j,j < l.length→∃u,w.cell? ⟨b,off+j,none⟩=some u∧Ints w u (l.getD j []):=by
 obtain⟨a',c',b,off,hv,ha,hc,_⟩:=h;injection hv with e1 _ _;exact⟨b,off,e1.trans (ha h0),hc⟩
theorem vectorsC {w:World}{n i o:Int}{ta:Option Addr}{tn tc:Nat}{u0 u1 u2:Value}{c:Cs}(h0:Ints w u0 c.1) (h1:Intss w u1 c.2.1) (h2:Intss w u2 c.2.2) :
  Calls Tryz.prog 139 #[.agg #[.int .i64 n,.int .i64 i,.int .i64 o,.slice ta tn tc],.agg #[u0,u1,u2]] w fun e w'=>e = .returned (.int .i64 (outsE n o c))∧Below w.heap.size w w':=by
 obtain⟨a0,c0,hs0⟩:=h0.shape;obtain⟨a1,c1,hs1⟩:=h1.shape;obtain⟨a2,c2,hs2⟩:=h2.shape;subst hs0 hs1 hs2;obtain⟨x0,l1,l2⟩:=c;have hl2:l2.length≤5864062014805:=by obtain⟨_,_,_,_,_,_,_,h⟩:=h2;exact h
 obtain⟨n0,hn0⟩:=exE (x0.length);obtain⟨W1,hW1⟩:=exF ((w.alloc (.cells #[.int .i64 n,.int .i64 i,.int .i64 o,.slice ta tn tc] 24)).alloc (.cells #[.slice a0 n0 c0,.slice a1 l1.length c1,.slice a2 l2.length c2] 95));have hb1:Below w.heap.size w W1:=by rw[hW1];exact((Below.refl _ w).alloc (Nat.le_refl _) _).alloc (by simp) _
 have kT:W1.heap[w.heap.size]? = some (.cells #[.int .i64 n,.int .i64 i,.int .i64 o,.slice ta tn tc] 24):=by
  rw[hW1];exact(Below.heap_alloc _ _ _ (by simp)).trans (World.alloc_heap_new w _)
 have kC:W1.heap[w.heap.size+1]? = some (.cells #[.slice a0 n0 c0,.slice a1 l1.length c1,.slice a2 l2.length c2] 95):=by
  rw[hW1];have:=World.alloc_heap_new (w.alloc (.cells #[.int .i64 n,.int .i64 i,.int .i64 o,.slice ta tn tc] 24)) (.cells #[.slice a0 n0 c0,.slice a1 l1.length c1,.slice a2 l2.length c2] 95)
  rwa [World.size_alloc] at this
 have HK:=qH (fun W (hb:Below W1.heap.size W1 W)=>And.intro (cell_kept hb (show W1.cell? ⟨w.heap.size,0,none⟩=some (.int .i64 n) by rw[cell_of_row _ _ 0 _ _ _ kT];rfl)) (And.intro (cell_kept hb (show W1.cell? ⟨w.heap.size,2,none⟩=some (.int .i64 o) by rw[cell_of_row _ _ 2 _ _ _ kT];rfl)) (And.intro (cell_kept hb (show W1.cell? ⟨w.heap.size+1,1,none⟩=some (.slice a1 l1.length c1) by rw[cell_of_row _ _ 1 _ _ _ kC];rfl)) (cell_kept hb (show W1.cell? ⟨w.heap.size+1,2,none⟩=some (.slice a2 l2.length c2) by rw[cell_of_row _ _ 2 _ _ _ kC];rfl)))));have H1:=qH (fun W (hb:Below W1.heap.size W1 W)=>(h1.keep hb1).keep hb);have H2:=qH (fun W (hb:Below W1.heap.size W1 W)=>(h2.keep hb1).keep hb);obtain⟨E,hE⟩:=exE (outsE n o (x0,l1,l2));rw[hE,hn0];unfold outsE at hE;simp only at hE
 clear h0 h1 h2 kT kC;obtain⟨g0,g1,g2,g3⟩:=HK.out W1 (Below.refl _ _);rw[hW1] at g0 g1 g2 g3;by_cases hlen:l1.length < 1∨1024 < l1.length
 ·rw[if_pos hlen] at hE;replace hE:=qH hE;rcases hlen with hl|hl
  ·have d1:decide ((l1.length:Int) < 1)=true:=decide_eq_true (by omega);clear hl;go_enter Tryz.func139, Tryz.ntmps139
   go_wp2;go_ret;exact⟨ret_int hE.out,by rw[←hW1];exact hb1⟩
  ·have d1:decide ((l1.length:Int) < 1)=false:=decide_eq_false (by omega);have d2:decide ((1024:Int) < (l1.length:Int))=true:=decide_eq_true (by omega);clear hl;go_enter Tryz.func139, Tryz.ntmps139
   go_wp2;go_ret;exact⟨ret_int hE.out,by rw[←hW1];exact hb1⟩
 ·rw[if_neg hlen] at hE;obtain⟨F1,hF1⟩:=exE (firstE (outE n o l1) l1.length 0);obtain⟨F2,hF2⟩:=exE (firstE (calmE l1 l2) l2.length 0);rw[hF1,hF2] at hE;have s1:Hid (firstE (outE n o l1) (l1.length - 0) 0=F1):=hF1;have s2:Hid (firstE (calmE l1 l2) (l2.length - 0) 0=F2):=hF2;replace hE:=qH hE;have d1:decide ((l1.length:Int) < 1)=false:=decide_eq_false (by omega);have d2:decide ((1024:Int) < (l1.length:Int))=false:=decide_eq_false (by omega);have hl0:0 < l1.length:=by omega
  have hlb:l1.length≤1024:=by omega
  clear hlen hF1 hF2;go_enter Tryz.func139, Tryz.ntmps139
  go_wp2_with fail
  rw[←hW1];replace hW1:=qH hW1;clear g0 g1 g2 g3 d1 d2;go_loopw [23] (fun iv wr=>∃k:Nat,iv = .int .i64 k∧k≤l1.length∧Hid (firstE (outE n o l1) (l1.length - k) k=F1)∧Below W1.heap.size W1 wr) (fun iv _=>l1.length - (intOf iv).toNat)
  case atStart=>exact⟨0,rfl,by omega,s1,Below.refl _ _⟩
  case round=>
   clear s1;obtain⟨k,rfl,hk,ht,hbr⟩:=hrel;obtain⟨g0,g1,g2,g3⟩:=HK.out wr hbr;by_cases hlt:k < l1.length
   ·have ht1:=ht.out;rw[show l1.length - k=(l1.length - (k+1))+1 by omega] at ht1;obtain⟨b,off,rfl,hc⟩:=(H1.out wr hbr).at hl0;obtain⟨u,cu,hu⟩:=hc k hlt;have HV:=vectorC (n:=n) (most:=o) hu;have HU:=qH (fun W (hb:Below wr.heap.size wr W)=>unordC ((H1.out wr hbr).keep hb) hlt);obtain⟨ua,uc,hus⟩:=hu.shape;subst hus;obtain⟨z,hz⟩:=exE (vecE (l1.getD k []) n o);obtain⟨B,hB⟩:=exE (unordB l1 k);have hfk:=outE_eq (n:=n) (o:=o) (l:=l1) (k:=k);rw[hz,hB] at hfk;rw[hz] at HV;simp only[hB] at HU;obtain⟨m,hm⟩:=exE ((l1.getD k []).length);rw[hm] at cu HV;replace HV:=qH HV;clear hc hu hz hB hm ht;by_cases hz0:z=0
    ·subst hz0;rw[if_neg (fun h=>h rfl)] at hfk;cases B
     ·have hn:=qH (firstE_step ht1 hfk);clear ht1 hfk;go_wp2_with fail
      refine HV.out.mono ?_;rintro e w2 ⟨rfl,hb2⟩;obtain⟨g0,g1,g2,g3⟩:=HK.out w2 (btt hbr hb2);go_wp2_with fail
      refine(HU.out w2 hb2).mono ?_;rintro e w3 ⟨rfl,hb3⟩;have hb03:=btt (btt hbr hb2) hb3;go_wp2_with fail
      go_roundw
      case rel=>exact⟨k+1,by go_num,hlt,hn,hb03⟩
      case measure=>simp[intOf];omega
     ·have hn:=qH (firstE_stop ht1 (by rw[hfk];decide));rw[hfk] at hn
      have hEE:Hid ((14:Int)=E):=by
       have:=hE.out
       rw[←hn.out] at this;exact this
      clear ht1 hfk hn;go_wp2_with fail
      refine HV.out.mono ?_;rintro e w2 ⟨rfl,hb2⟩;obtain⟨g0,g1,g2,g3⟩:=HK.out w2 (btt hbr hb2);go_wp2_with fail
      refine(HU.out w2 hb2).mono ?_;rintro e w3 ⟨rfl,hb3⟩;have hb03:=btt hb1 (btt (btt hbr hb2) hb3);go_wp2_with fail
      go_ret;exact⟨ret_int hEE.out,hb03⟩
    ·rw[if_pos hz0] at hfk;have hn:=firstE_stop ht1 (by rw[hfk];exact hz0);rw[hfk] at hn
     have hEE:Hid (z=E):=by
      have:=hE.out
      rw[←hn,if_pos hz0] at this;exact this
     have hz1:(z != 0)=true:=(by simpa using hz0);clear ht1 hfk hn;go_wp2_with fail
     refine HV.out.mono ?_;rintro e w2 ⟨rfl,hb2⟩;have hb02:=btt hb1 (btt hbr hb2);go_wp2_with fail
     go_ret;exact⟨ret_int hEE.out,hb02⟩
   ·have hF:F1=0:=by
     have:=ht.out
     rw[show l1.length - k=0 by omega] at this;exact this.symm
    have hEE:Hid (F2=E):=by
     have:=hE.out
     rw[hF,if_neg (fun h=>h rfl)] at this;exact this
    clear ht hF hE;go_wp2_with fail
    obtain⟨wo,hwo⟩:=exF (wr);rw[←hwo];rw[←hwo] at hbr;clear hwo g0 g1 g2 g3;go_loopw [45] (fun iv wr=>∃k:Nat,iv = .int .i64 k∧k≤l2.length∧Hid (firstE (calmE l1 l2) (l2.length - k) k=F2)∧Below W1.heap.size W1 wr) (fun iv _=>l2.length - (intOf iv).toNat)
    case atStart=>exact⟨0,rfl,by omega,s2,hbr⟩
    case round=>
     clear s2 hbr;obtain⟨k,rfl,hk,ht,hbr⟩:=hrel;obtain⟨g0,g1,g2,g3⟩:=HK.out wr hbr;by_cases hlt:k < l2.length
     ·have ht1:=ht.out;rw[show l2.length - k=(l2.length - (k+1))+1 by omega] at ht1;obtain⟨b,off,rfl,hc⟩:=(H2.out wr hbr).at (by omega);obtain⟨u,cu,hu⟩:=hc k hlt;have HV:=hasC (H1.out wr hbr) hu;have HU:=qH (fun W (hb:Below wr.heap.size wr W)=>unordC ((H2.out wr hbr).keep hb) hlt);obtain⟨ua,uc,hus⟩:=hu.shape;subst hus;obtain⟨A,hA⟩:=exE (decide (l2.getD k []∈l1));obtain⟨B,hB⟩:=exE (unordB l2 k);have hfk:=calmE_eq (o:=l1) (l:=l2) (k:=k);rw[hA,hB] at hfk;rw[hA] at HV;simp only[hB] at HU;obtain⟨m,hm⟩:=exE ((l2.getD k []).length);rw[hm] at cu HV;replace HV:=qH HV;clear hc hu hA hB hm ht;cases A
      ·rw[if_pos rfl] at hfk;have hn:=firstE_stop ht1 (by rw[hfk];decide);rw[hfk] at hn
       have hE6:Hid ((6:Int)=E):=by
        have:=hEE.out
        rw[←hn] at this;exact this
       clear ht1 hfk hn;go_wp2_with fail
       refine HV.out.mono ?_;rintro e w2 ⟨rfl,hb2⟩;have hb02:=btt hb1 (btt hbr hb2);go_wp2_with fail
       go_ret;exact⟨ret_int hE6.out,hb02⟩
      ·cases B
       ·have hn:=qH (firstE_step ht1 hfk);clear ht1 hfk;go_wp2_with fail
        refine HV.out.mono ?_;rintro e w2 ⟨rfl,hb2⟩;obtain⟨g0,g1,g2,g3⟩:=HK.out w2 (btt hbr hb2);go_wp2_with fail
        refine(HU.out w2 hb2).mono ?_;rintro e w3 ⟨rfl,hb3⟩;have hb03:=btt (btt hbr hb2) hb3;go_wp2_with fail
        go_roundw
        case rel=>exact⟨k+1,by go_num,hlt,hn,hb03⟩
        case measure=>simp[intOf];omega
       ·have hn:=firstE_stop ht1 (by rw[hfk];decide);rw[hfk] at hn
        have hE14:Hid ((14:Int)=E):=by
         have:=hEE.out
         rw[←hn] at this;exact this
        clear ht1 hfk hn;go_wp2_with fail
        refine HV.out.mono ?_;rintro e w2 ⟨rfl,hb2⟩;obtain⟨g0,g1,g2,g3⟩:=HK.out w2 (btt hbr hb2);go_wp2_with fail
        refine(HU.out w2 hb2).mono ?_;rintro e w3 ⟨rfl,hb3⟩;have hb03:=btt hb1 (btt (btt hbr hb2) hb3);go_wp2_with fail
        go_ret;exact⟨ret_int hE14.out,hb03⟩
     ·have hE0:Hid ((0:Int)=E):=by
       have:=ht.out
       rw[show l2.length - k=0 by omega] at this;rw[←hEE.out,←this];rfl
      have hb03:=btt hb1 hbr;clear ht;go_wp2_with fail
      go_ret;exact⟨ret_int hE0.out,hb03⟩
def unordC' (cs:List Cs) (k:Nat):Bool:=decide (0 < k∧0≤cmpL (cs.getD (k - 1) csNil).1 (cs.getD k csNil).1)
theorem caseE_eq {n i o:Int}{cs:List Cs}{k:Nat}:caseE n i o cs k=if vecE (cs.getD k csNil).1 n i ≠ 0 then vecE (cs.getD k csNil).1 n i else if unordC' cs k=true then 14 else outsE n o (cs.getD k csNil):=by
 unfold caseE unordC';simp only[decide_eq_true_eq]
theorem CsS.at {w:World}{a:Option Addr}{c:Nat}{l:List Cs}(h:CsS w (.slice a l.length c) l) (h0:0 < l.length):∃b off,a=some ⟨b,off,none⟩∧CsC w b off l:=by
 obtain⟨a',c',b,off,hv,ha,hc,_⟩:=h;injection hv with e1 _ _;exact⟨b,off,e1.trans (ha h0),hc⟩
theorem box4' {W:World}{b:Nat}{v0 v1 v2 v3:Value}{T:TypeId}(h:W.heap[b]? = some (.cells #[v0,v1,v2,v3] T)):W.cell? ⟨b,0,none⟩=some v0∧W.cell? ⟨b,1,none⟩=some v1∧W.cell? ⟨b,2,none⟩=some v2∧W.cell? ⟨b,3,none⟩=some v3:=
 ⟨by rw[cell_of_row _ _ 0 _ _ _ h];rfl,by rw[cell_of_row _ _ 1 _ _ _ h];rfl,by rw[cell_of_row _ _ 2 _ _ _ h];rfl,by rw[cell_of_row _ _ 3 _ _ _ h];rfl⟩
theorem box3' {W:World}{b:Nat}{v0 v1 v2:Value}{T:TypeId}(h:W.heap[b]? = some (.cells #[v0,v1,v2] T)):W.cell? ⟨b,0,none⟩=some v0∧W.cell? ⟨b,1,none⟩=some v1∧W.cell? ⟨b,2,none⟩=some v2:=
 ⟨by rw[cell_of_row _ _ 0 _ _ _ h];rfl,by rw[cell_of_row _ _ 1 _ _ _ h];rfl,by rw[cell_of_row _ _ 2 _ _ _ h];rfl⟩
theorem keep4 {W W1:World}{b:Nat}{v0 v1 v2 v3:Value}(hb:Below W.heap.size W W1) (h:W.cell? ⟨b,0,none⟩=some v0∧W.cell? ⟨b,1,none⟩=some v1∧W.cell? ⟨b,2,none⟩=some v2∧W.cell? ⟨b,3,none⟩=some v3):W1.cell? ⟨b,0,none⟩=some v0∧W1.cell? ⟨b,1,none⟩=some v1∧W1.cell? ⟨b,2,none⟩=some v2∧W1.cell? ⟨b,3,none⟩=some v3:=
 ⟨cell_kept hb h.1,cell_kept hb h.2.1,cell_kept hb h.2.2.1,cell_kept hb h.2.2.2⟩
theorem keep3 {W W1:World}{b:Nat}{v0 v1 v2:Value}(hb:Below W.heap.size W W1) (h:W.cell? ⟨b,0,none⟩=some v0∧W.cell? ⟨b,1,none⟩=some v1∧W.cell? ⟨b,2,none⟩=some v2):W1.cell? ⟨b,0,none⟩=some v0∧W1.cell? ⟨b,1,none⟩=some v1∧W1.cell? ⟨b,2,none⟩=some v2:=
 ⟨cell_kept hb h.1,cell_kept hb h.2.1,cell_kept hb h.2.2⟩
theorem checkT {w:World}{v:Value}{n i o:Int}{cs:List Cs}(h:TaskV w v n i o cs) :
  Calls Tryz.prog 82 #[v] w fun e w'=>e = .returned (.int .i64 (chkT n i o cs))∧Below w.heap.size w w':=by
 have hmx : Tryz.prog.follows .mixedOrders=true:=by kernel_rfl
 obtain⟨sv,rfl,hS⟩:=h;obtain⟨sa,sc,hs⟩:=hS.shape;subst hs;obtain⟨W1,hW1⟩:=exF (w.alloc (.cells #[.int .i64 n,.int .i64 i,.int .i64 o,.slice sa cs.length sc] 24));have hb1:Below w.heap.size w W1:=by rw[hW1];exact(Below.refl _ w).alloc (Nat.le_refl _) _
 have kT:W1.heap[w.heap.size]? = some (.cells #[.int .i64 n,.int .i64 i,.int .i64 o,.slice sa cs.length sc] 24):=by rw[hW1];exact heap_alloc_new _ _
 have HK:=qH (fun W (hb:Below W1.heap.size W1 W)=>keep4 hb (box4' kT));have HS:=qH (fun W (hb:Below W1.heap.size W1 W)=>(hS.keep hb1).keep hb);obtain⟨E,hE⟩:=exE (chkT n i o cs);rw[hE];unfold chkT at hE;have hNl:cs.length≤1954687338268:=by obtain⟨_,_,_,_,_,_,_,h⟩:=hS;exact h
 clear kT hS;obtain⟨g0,g1,g2,g3⟩:=HK.out W1 (Below.refl _ _);rw[hW1] at g0 g1 g2 g3;by_cases qn0:n < 1
 ·have dn0:decide ((n:Int) < 1)=true:=decide_eq_true qn0;rw[if_pos (by omega)] at hE;replace hE:=qH hE;clear qn0;go_enter Tryz.func82, Tryz.ntmps82
  go_wp2;go_ret;exact⟨ret_int hE.out,by rw[←hW1];exact hb1⟩
 have dn0:decide ((n:Int) < 1)=false:=decide_eq_false qn0;by_cases qn1:5 < n
 ·have dn1:decide ((5:Int) < n)=true:=decide_eq_true qn1;rw[if_pos (by omega)] at hE;replace hE:=qH hE;clear qn1;clear qn0;go_enter Tryz.func82, Tryz.ntmps82
  go_wp2;go_ret;exact⟨ret_int hE.out,by rw[←hW1];exact hb1⟩
 have dn1:decide ((5:Int) < n)=false:=decide_eq_false qn1;by_cases qi0:i < 1
 ·have di0:decide ((i:Int) < 1)=true:=decide_eq_true qi0;rw[if_pos (by omega)] at hE;replace hE:=qH hE;clear qi0;clear qn0 qn1;go_enter Tryz.func82, Tryz.ntmps82
  go_wp2;go_ret;exact⟨ret_int hE.out,by rw[←hW1];exact hb1⟩
 have di0:decide ((i:Int) < 1)=false:=decide_eq_false qi0;by_cases qi1:8 < i
 ·have di1:decide ((8:Int) < i)=true:=decide_eq_true qi1;rw[if_pos (by omega)] at hE;replace hE:=qH hE;clear qi1;clear qn0 qn1 qi0;go_enter Tryz.func82, Tryz.ntmps82
  go_wp2;go_ret;exact⟨ret_int hE.out,by rw[←hW1];exact hb1⟩
 have di1:decide ((8:Int) < i)=false:=decide_eq_false qi1;by_cases qo0:o < 1
 ·have do0:decide ((o:Int) < 1)=true:=decide_eq_true qo0;rw[if_pos (by omega)] at hE;replace hE:=qH hE;clear qo0;clear qn0 qn1 qi0 qi1;go_enter Tryz.func82, Tryz.ntmps82
  go_wp2;go_ret;exact⟨ret_int hE.out,by rw[←hW1];exact hb1⟩
 have do0:decide ((o:Int) < 1)=false:=decide_eq_false qo0;by_cases qo1:8 < o
 ·have do1:decide ((8:Int) < o)=true:=decide_eq_true qo1;rw[if_pos (by omega)] at hE;replace hE:=qH hE;clear qo1;clear qn0 qn1 qi0 qi1 qo0;go_enter Tryz.func82, Tryz.ntmps82
  go_wp2;go_ret;exact⟨ret_int hE.out,by rw[←hW1];exact hb1⟩
 have do1:decide ((8:Int) < o)=false:=decide_eq_false qo1;rw[if_neg (by omega)] at hE;clear qn0 qn1 qi0 qi1 qo0 qo1;by_cases qe0:cs.length < 1
 ·have de0:decide ((cs.length:Int) < 1)=true:=decide_eq_true (by omega);rw[if_pos (by omega)] at hE;replace hE:=qH hE;go_enter Tryz.func82, Tryz.ntmps82
  go_wp2;go_ret;exact⟨ret_int hE.out,by rw[←hW1];exact hb1⟩
 have de0:decide ((cs.length:Int) < 1)=false:=decide_eq_false (by omega);by_cases qe1:1024 < cs.length
 ·have de1:decide ((1024:Int) < (cs.length:Int))=true:=decide_eq_true (by omega);rw[if_pos (by omega)] at hE;replace hE:=qH hE;go_enter Tryz.func82, Tryz.ntmps82
  go_wp2;go_ret;exact⟨ret_int hE.out,by rw[←hW1];exact hb1⟩
 have de1:decide ((1024:Int) < (cs.length:Int))=false:=decide_eq_false (by omega);rw[if_neg (by omega)] at hE;have hl0:0 < cs.length:=by omega
 have hlb:cs.length≤1024:=by omega
 have s1:Hid (firstE (caseE n i o cs) (cs.length - 0) 0=E):=hE;clear hE qe0 qe1;go_enter Tryz.func82, Tryz.ntmps82
 go_wp2_with fail
 rw[←hW1];replace hW1:=qH hW1;clear g0 g1 g2 g3 dn0 dn1 di0 di1 do0 do1 de0 de1;go_loopw [46] (fun iv wr=>∃k:Nat,iv = .int .i64 k∧k≤cs.length∧Hid (firstE (caseE n i o cs) (cs.length - k) k=E)∧Below W1.heap.size W1 wr) (fun iv _=>cs.length - (intOf iv).toNat)
 case atStart=>exact⟨0,rfl,by omega,s1,Below.refl _ _⟩
 case round=>
  clear s1;obtain⟨k,rfl,hk,ht,hbr⟩:=hrel;obtain⟨g0,g1,g2,g3⟩:=HK.out wr hbr;by_cases hlt:k < cs.length
  ·have ht1:=ht.out;rw[show cs.length - k=(cs.length - (k+1))+1 by omega] at ht1;obtain⟨b,off,rfl,hc⟩:=(HS.out wr hbr).at hl0;obtain⟨u0,u1,u2,c0,c1,c2,i0,i1,i2⟩:=hc k hlt;obtain⟨x0,y0,hs⟩:=i0.shape;subst hs;obtain⟨x1,y1,hs⟩:=i1.shape;subst hs;obtain⟨x2,y2,hs⟩:=i2.shape;subst hs;obtain⟨c,hcc⟩:=exE (cs.getD k csNil);have hfk:=caseE_eq (n:=n) (i:=i) (o:=o) (cs:=cs) (k:=k);rw[hcc] at hfk;rw[hcc] at c0 c1 c2 i0 i1 i2;obtain⟨W2,hW2⟩:=exF (wr.alloc (.cells #[.slice x0 c.1.length y0,.slice x1 c.2.1.length y1,.slice x2 c.2.2.length y2] 95));have hb2:Below wr.heap.size wr W2:=(by rw[hW2];exact(Below.refl _ _).alloc (Nat.le_refl _) _);have kC:W2.heap[wr.heap.size]? = some (.cells #[.slice x0 c.1.length y0,.slice x1 c.2.1.length y1,.slice x2 c.2.2.length y2] 95):=(by rw[hW2];exact heap_alloc_new _ _);have HC:=qH (fun W (hb:Below W2.heap.size W2 W)=>keep3 hb (box3' kC));have D2:=btt hbr hb2;have HV:=vectorC (n:=n) (most:=i) (i0.keep hb2);have HVs:=qH (fun W (hb:Below W2.heap.size W2 W)=>vectorsC (n:=n) (i:=i) (o:=o) (ta:=some ⟨b,off,none⟩) (tn:=cs.length) (tc:=sc) (c:=c) ((i0.keep hb2).keep hb) ((i1.keep hb2).keep hb) ((i2.keep hb2).keep hb))
   have HP:=qH (fun(h0:0 < k)=>by
    obtain⟨p0,_,_,q0,_,_,j0,_⟩:=hc (k - 1) (by omega);exact(⟨p0,q0,j0⟩:∃p0,wr.cell? ⟨b,off+(k - 1) * 3,none⟩=some p0∧Ints wr p0 (cs.getD (k - 1) csNil).1))
   have I0:=qH (fun W (hb:Below W2.heap.size W2 W)=>(i0.keep hb2).keep hb);obtain⟨z,hz⟩:=exE (vecE c.1 n i);obtain⟨B,hB⟩:=exE (unordC' cs k);obtain⟨y,hy⟩:=exE (outsE n o c);rw[hz,hB,hy] at hfk;rw[hz] at HV;simp only[hy] at HVs;replace HV:=qH HV;obtain⟨g0',g1',g2',g3'⟩:=HK.out W2 D2;obtain⟨r0,r1,r2⟩:=HC.out W2 (Below.refl _ _);rw[hW2] at g0' g1' g2' g3' r0 r1 r2;clear kC i0 i1 i2 hz hy ht hc;by_cases hz0:z=0
   ·subst hz0;rw[if_neg (fun h=>h rfl)] at hfk;go_wp2_with fail
    rw[←hW2];replace hW2:=qH hW2;refine HV.out.mono ?_;rintro e w3 ⟨rfl,hb3⟩;have D3:=btt D2 hb3;clear g0 g1 g2 g3 g0' g1' g2' g3' r0 r1 r2 c0 c1 c2;have HKr:=qH (fun W (hb:Below w3.heap.size w3 W)=>And.intro (HK.out W (btt D3 hb)).2.2.2 (HC.out W (btt hb3 hb)).1);have hreg:k=0∨0 < k:=by omega
    have fin:B=true→Hid ((14:Int)=E):=fun hBt=>by
     have:=firstE_stop ht1 (by rw[hfk,if_pos hBt];decide)
     rw[hfk,if_pos hBt] at this;exact this
    have nxt:B=false→y=0→Hid (firstE (caseE n i o cs) (cs.length - (k+1)) (k+1)=E):=fun hBf hy0=>by
     refine firstE_step ht1 ?_;rw[hfk,if_neg (by rw[hBf];decide),hy0]
    have stp:B=false→y ≠ 0→Hid (y=E):=fun hBf hy0=>by
     have e1:caseE n i o cs k=y:=(by rw[hfk,if_neg (by rw[hBf];decide)]);have:=firstE_stop ht1 (by rw[e1];exact hy0)
     rw[e1] at this;exact this
    replace fin:=qH fin;replace nxt:=qH nxt;replace stp:=qH stp;clear ht1 hfk;go_wp2_with fail
    rcases hreg with h0|h0
    ·subst h0;have hBf:B=false:=(by rw[←hB];exact decide_eq_false (fun h=>by omega));replace fin:=trivial;replace nxt:=qH (nxt.out hBf);replace stp:=qH (stp.out hBf);clear hB hBf HP;refine wp_region_bw hmx (by kernel_rfl) ?_
     repeat (refine WQ.step fun K hK=>?_;go_simp;first|(refine hK _ ?_;clear hK K)|(apply Exists.intro;refine⟨fun wq hC=>?_,hK _ ?_⟩;(·(first|with_reducible rfl|(go_simp;first|done|with_reducible rfl|with_reducible exact⟨rfl,rfl⟩)));clear hK K))
     refine WQ.nil ?_;intro w4 hb4;obtain⟨g0,g1,g2,g3⟩:=HK.out w4 (btt D3 hb4);obtain⟨r0,r1,r2⟩:=HC.out w4 (btt hb3 hb4);go_wp2_with fail
     refine(HVs.out w4 (btt hb3 hb4)).mono ?_;rintro e w5 ⟨rfl,hb5⟩;have hbf:=btt (btt D3 hb4) hb5;by_cases hy0:y=0
     ·have hn:=nxt.out hy0;subst hy0;clear stp nxt;go_wp2_with fail
      go_roundw
      case rel=>exact⟨_,by go_num,hlt,hn,hbf⟩
      case measure=>simp[intOf];omega
     ·have hn:=stp.out hy0;have hy1:(y != 0)=true:=(by simpa using hy0);have hbff:=btt hb1 hbf;clear stp nxt;go_wp2_with fail
      go_ret;exact⟨ret_int hn.out,hbff⟩
    ·obtain⟨p0,q0,j0⟩:=HP.out h0;obtain⟨pa,pc,hs⟩:=j0.shape;subst hs;obtain⟨P,hP⟩:=exE ((cs.getD (k - 1) csNil).1);have hBz:B=decide (0≤cmpL P c.1):=(by rw[←hB,←hP,←hcc];unfold unordC';simp[h0]);rw[hP] at q0 j0;obtain⟨t,ht⟩:=exE (cmpL P c.1);have HCm:=qH (fun W (hb:Below w3.heap.size w3 W)=>cmpIntsC (j0.keep (btt (btt hb2 hb3) hb)) (I0.out W (btt hb3 hb)));simp only[ht] at HCm;rw[ht] at hBz;obtain⟨m1,hm1⟩:=exE (P.length);obtain⟨m2,hm2⟩:=exE (c.1.length);obtain⟨k1,hk1⟩:=exE (k - 1);rw[hm1,hk1] at q0;simp only[hm1,hm2] at HCm;have HKr2:=qH (fun W (hb:Below w3.heap.size w3 W)=>And.intro (HKr.out W hb) (cell_kept (btt (btt hb2 hb3) hb) q0));simp only[hm2] at HKr2;have d1:decide ((0:Int) < (k:Int))=true:=decide_eq_true (by omega);have hwr:IntKind.i64.wrap ((k:Int) - 1)=(k1:Int):=(by rw[show(k:Int) - 1=(k1:Int) by omega];exact IntWalk.i64_in _ (by omega));have hi1:(k1:Int) < (cs.length:Int):=(by omega);have hi2:(k:Int) < (cs.length:Int):=(by omega);replace hB:=qH hB;replace hP:=qH hP;replace ht:=qH ht;replace hm1:=qH hm1;replace hm2:=qH hm2;replace hk1:=qH hk1;clear q0 j0;refine wp_region_bw hmx (by kernel_rfl) ?_
     repeat (refine WQ.step fun K hK=>?_;go_simp;first|(refine hK _ ?_;clear hK K)|(apply Exists.intro;refine⟨fun wq hC=>?_,hK _ ?_⟩;(·(first|with_reducible rfl|(obtain⟨⟨f0,f1⟩,f2⟩:=HKr2.out wq hC;go_simp;first|done|with_reducible rfl|with_reducible exact⟨rfl,rfl⟩)));clear hK K))
     (refine WQ.step fun K hK=>?_;go_simp;first|(refine hK _ ?_;clear hK K)|(apply Exists.intro;refine⟨fun wq hC=>?_,hK _ ?_⟩;(·(refine(HCm.out wq hC).mono ?_;rintro e w' ⟨rfl,rfl⟩;exact⟨rfl,hC⟩));clear hK K))
     repeat (refine WQ.step fun K hK=>?_;go_simp;first|(refine hK _ ?_;clear hK K)|(apply Exists.intro;refine⟨fun wq hC=>?_,hK _ ?_⟩;(·(first|with_reducible rfl|(go_simp;first|done|with_reducible rfl|with_reducible exact⟨rfl,rfl⟩)));clear hK K))
     refine WQ.nil ?_;intro w4 hb4;rw[←hBz];clear hBz;cases B
     ·replace fin:=trivial;replace nxt:=qH (nxt.out rfl);replace stp:=qH (stp.out rfl);obtain⟨g0,g1,g2,g3⟩:=HK.out w4 (btt D3 hb4);obtain⟨r0,r1,r2⟩:=HC.out w4 (btt hb3 hb4);go_wp2_with fail
      refine(HVs.out w4 (btt hb3 hb4)).mono ?_;rintro e w5 ⟨rfl,hb5⟩;have hbf:=btt (btt D3 hb4) hb5;by_cases hy0:y=0
      ·have hn:=nxt.out hy0;subst hy0;clear stp nxt;go_wp2_with fail
       go_roundw
       case rel=>exact⟨_,by go_num,hlt,hn,hbf⟩
       case measure=>simp[intOf];omega
      ·have hn:=stp.out hy0;have hy1:(y != 0)=true:=(by simpa using hy0);have hbff:=btt hb1 hbf;clear stp nxt;go_wp2_with fail
       go_ret;exact⟨ret_int hn.out,hbff⟩
     ·have hEf:=fin.out rfl;have hbf:=btt hb1 (btt D3 hb4);go_wp2_with fail
      go_ret;exact⟨ret_int hEf.out,hbf⟩
   ·rw[if_pos hz0] at hfk;have hn:=firstE_stop ht1 (by rw[hfk];exact hz0);rw[hfk] at hn;replace hn:=qH hn;have hz1:(z != 0)=true:=(by simpa using hz0);clear ht1 hfk HP;go_wp2_with fail
    rw[←hW2];replace hW2:=qH hW2;refine HV.out.mono ?_;rintro e w3 ⟨rfl,hb3⟩;have hbf:=btt hb1 (btt D2 hb3);go_wp2_with fail
    go_ret;exact⟨ret_int hn.out,hbf⟩
  ·have hE0:Hid ((0:Int)=E):=by
    have:=ht.out
    rw[show cs.length - k=0 by omega] at this;exact this
   have hb03:=btt hb1 hbr;clear ht;go_wp2_with fail
   go_ret;exact⟨ret_int hE0.out,hb03⟩
theorem refOrderC {w:World}{u v:Value}{xs ys:List Int}(hx:Ints w u xs) (hy:Ints w v ys) :
  Calls Tryz.prog 196 #[u,v] w fun e w'=>e = .returned (.int .i64 (cmpL xs ys))∧Qt w w':=by
 obtain⟨xa,xc,xb,xo,rfl,hxa,hxc,hxl⟩:=hx;obtain⟨ya,yc,yb,yo,rfl,hya,hyc,hyl⟩:=hy;obtain⟨E,hE⟩:=exE (cmpL xs ys);rw[hE];have h0:Hid (cmpL (xs.drop 0) (ys.drop 0)=E):=hE;replace hxc:=qH hxc;replace hyc:=qH hyc;clear hE;go_enter Tryz.func196, Tryz.ntmps196
 go_wp2_with fail
 go_loopw [5] (fun iv wr=>∃i:Nat,iv = .int .i64 i∧i≤xs.length∧i≤ys.length∧Hid (cmpL (xs.drop i) (ys.drop i)=E)∧Qt w wr) (fun iv _=>xs.length - (intOf iv).toNat)
 case atStart=>exact⟨0,rfl,by omega,by omega,h0,Qt.refl w⟩
 case round=>
  clear h0;obtain⟨i,rfl,hi,hj,ht,n,rfl⟩:=hrel;by_cases hlt:i < xs.length
  ·obtain rfl:=hxa (by omega);have hxi:=hxc.out i hlt;obtain⟨x,hx⟩:=exE (xs.getD i 0);rw[hx] at hxi;by_cases hlu:i < ys.length
   ·obtain rfl:=hya (by omega);have hyi:=hyc.out i hlu;obtain⟨y,hy⟩:=exE (ys.getD i 0);rw[hy] at hyi;have ht2:=ht.out;rw[drop_cons0 hlt hx,drop_cons0 hlu hy] at ht2;clear hx hy ht;by_cases l1:x < y
    ·have d1:decide (x < y)=true:=decide_eq_true l1;rw[cmpL_ne (by rw[cmpI_lt l1];decide),cmpI_lt l1] at ht2;replace ht2:=qH ht2;clear l1;go_wp2_with fail
     go_quiet (fail)
     go_wp2_with fail
     go_ret;exact⟨ret_int ht2.out,by first|exact(Qt.mk' w n).step nq|exact Qt.mk' w _|exact⟨_,by rw[World.drewN_drewN,World.drewN_drewN]⟩⟩
    ·have d1:decide (x < y)=false:=decide_eq_false l1;by_cases l2:y < x
     ·have d2:decide (y < x)=true:=decide_eq_true l2;rw[cmpL_ne (by rw[cmpI_gt l2];decide),cmpI_gt l2] at ht2;replace ht2:=qH ht2;clear l1 l2;go_wp2_with fail
      go_quiet (fail)
      go_wp2_with fail
      go_quiet (fail)
      go_wp2_with fail
      go_ret;exact⟨ret_int ht2.out,by first|exact(Qt.mk' w n).step nq|exact Qt.mk' w _|exact⟨_,by rw[World.drewN_drewN,World.drewN_drewN]⟩⟩
     ·have d2:decide (y < x)=false:=decide_eq_false l2;rw[cmpL_hd (cmpI_zero.2 (show x=y by omega))] at ht2;replace ht2:=qH ht2;clear l1 l2;go_wp2_with fail
      go_quiet (fail)
      go_wp2_with fail
      go_quiet (fail)
      go_wp2_with fail
      go_roundw
      case rel=>exact⟨i+1,by go_num,hlt,hlu,ht2,by first|exact(Qt.mk' w n).step nq|exact Qt.mk' w _|exact⟨_,by rw[World.drewN_drewN,World.drewN_drewN]⟩⟩
      case measure=>simp[intOf];omega
   ·have hE:Hid ((1:Int)=E):=by
     have:=ht.out
     rw[drop_cons0 hlt hx,dropEnd (xs:=ys) (by omega)] at this;exact this
    have n3 : ¬xs.length < ys.length:=(by omega);have n4:ys.length < xs.length:=(by omega);clear ht hx;go_wp2_with fail
    go_ret;exact⟨ret_int hE.out,Qt.mk' w n⟩
  ·by_cases hlu:xs.length < ys.length
   ·have hE:Hid ((-1:Int)=E):=by
     have:=ht.out
     rw[dropEnd (xs:=xs) (by omega),drop_cons0 (xs:=ys) (x:=ys.getD i 0) (by omega) rfl] at this;exact this
    clear ht;go_wp2_with fail
    go_ret;exact⟨ret_int hE.out,Qt.mk' w n⟩
   ·have hE:Hid ((0:Int)=E):=by
     have:=ht.out
     rw[dropEnd (xs:=xs) (by omega),dropEnd (xs:=ys) (by omega)] at this;exact this
    have n4 : ¬ys.length < xs.length:=(by omega);clear ht;go_wp2_with fail
    go_ret;exact⟨ret_int hE.out,Qt.mk' w n⟩
theorem refHasC {w:World}{u v:Value}{l:List (List Int)}{x:List Int}(hx:Intss w u l) (hv:Ints w v x) :
  Calls Tryz.prog 146 #[u,v] w fun e w'=>e = .returned (.bool (decide (x∈l)))∧Below w.heap.size w w':=by
 obtain⟨xa,xc,xb,xo,rfl,hxa,hxc,hxl⟩:=hx;replace hxc:=qH hxc;have h0:Hid (x ∉ l.take 0):=by show ¬_;simp
 have hvh:=qH hv;obtain⟨va,vc,hvv⟩:=hv.shape;subst hvv;clear hv;go_enter Tryz.func146, Tryz.ntmps146
 go_wp2_with fail
 go_loopw [5] (fun iv wr=>∃i:Nat,iv = .int .i64 i∧i≤l.length∧Hid (x ∉ l.take i)∧Below w.heap.size w wr) (fun iv _=>l.length - (intOf iv).toNat)
 case atStart=>exact⟨0,rfl,by omega,h0,Below.refl _ _⟩
 case round=>
  clear h0;obtain⟨i,rfl,hi,hno,hbr⟩:=hrel;by_cases hlt:i < l.length
  ·obtain rfl:=hxa (by omega);obtain⟨xu,hxi,hxk⟩:=hxc.out i hlt;obtain⟨y,hy⟩:=exE (l.getD i []);rw[hy] at hxk;have c0:=cell_kept hbr hxi;have HC:=refOrderC (hxk.keep hbr) (hvh.out.keep hbr);have hmem:y∈l:=(by rw[←hy,getD_eq hlt];exact List.getElem_mem hlt);have htk:l.take (i+1)=l.take i ++ [y]:=(by rw[take_snoc hlt [],hy]);obtain⟨xsa,xsc,hxs⟩:=hxk.shape;subst hxs;clear hxk hy hxi;by_cases he:y=x
   ·rw[cmpL_zero.2 he] at HC;replace HC:=qH HC;have hres:Hid (decide (x∈l)=true):=(by show _=_;rw[←he];exact decide_eq_true hmem);clear htk hmem he hno;go_wp2_with fail
    refine HC.out.mono ?_;rintro e w' ⟨rfl,hq⟩;have hbn:=btt hbr hq.below;clear hq;go_wp2;go_ret;exact⟨by rw[hres.out];rfl,hbn⟩
   ·obtain⟨z,hz⟩:=exE (cmpL y x)
    have hz1:(z == 0)=false:=by
     rw[beq_eq_false_iff_ne,←hz];exact fun h=>he (cmpL_zero.1 h)
    rw[hz] at HC;replace HC:=qH HC
    have hnx:Hid (x ∉ l.take (i+1)):=by
     show ¬_;rw[htk,List.mem_append,List.mem_singleton];exact fun h=>h.elim hno.out fun h=>he h.symm
    clear htk hmem he hno hz;go_wp2_with fail
    refine HC.out.mono ?_;rintro e w' ⟨rfl,hq⟩;have hbn:=btt hbr hq.below;clear hq;go_wp2;go_roundw
    case rel=>exact⟨i+1,by go_num,hlt,hnx,hbn⟩
    case measure=>simp[intOf];omega
  ·have hres:Hid (decide (x∈l)=false):=by
    show _=_;have:=hno.out
    rw[List.take_of_length_le (by omega)] at this;exact decide_eq_false this
   clear hno;go_wp2;go_ret;exact⟨by rw[hres.out];rfl,hbr⟩
theorem refVectorC {w:World}{u:Value}{xs:List Int}{n most:Int}(hx:Ints w u xs) :
  Calls Tryz.prog 195 #[u,.int .i64 n,.int .i64 most] w fun e w'=>e = .returned (.int .i64 (vecE xs n most))∧w'=w:=by
 obtain⟨xa,xc,xb,xo,rfl,hxa,hxc,hxl⟩:=hx;rw[vecE_eq];by_cases hn:(xs.length:Int)=n
 ·rw[if_neg (fun h=>h hn)];subst hn;obtain⟨A,hA⟩:=exE (xs.any (outR most));rw[hA];have h0:Hid ((xs.drop 0).any (outR most)=A):=hA;replace hxc:=qH hxc;clear hA;go_enter Tryz.func195, Tryz.ntmps195
  go_wp2_with fail
  go_loopw [7] (fun iv wr=>∃i:Nat,iv = .int .i64 i∧i≤xs.length∧Hid ((xs.drop i).any (outR most)=A)∧wr=w) (fun iv _=>xs.length - (intOf iv).toNat)
  case atStart=>exact⟨0,rfl,by omega,h0,rfl⟩
  case round=>
   clear h0;obtain⟨i,rfl,hi,ht,rfl⟩:=hrel;by_cases hlt:i < xs.length
   ·obtain rfl:=hxa (by omega);have hxi:=hxc.out i hlt;obtain⟨x,hx⟩:=exE (xs.getD i 0);rw[hx] at hxi;have ht2:=ht.out;rw[drop_cons0 hlt hx,List.any_cons] at ht2;clear hx ht;by_cases l1:x < 0
    ·rw[show outR most x=true from decide_eq_true (.inl l1),Bool.true_or] at ht2;subst ht2;have d1:decide (x < 0)=true:=decide_eq_true l1;clear l1;go_wp2_with fail
     go_ret;exact⟨rfl,rfl⟩
    ·have d1:decide (x < 0)=false:=decide_eq_false l1;by_cases l2:most≤x
     ·rw[show outR most x=true from decide_eq_true (.inr l2),Bool.true_or] at ht2;subst ht2;have d2:decide (most≤x)=true:=decide_eq_true l2;clear l1 l2;go_wp2_with fail
      go_ret;exact⟨rfl,rfl⟩
     ·rw[show outR most x=false from decide_eq_false (fun h=>h.elim l1 l2),Bool.false_or] at ht2;replace ht2:=qH ht2;have d2:decide (most≤x)=false:=decide_eq_false l2;clear l1 l2;go_wp2_with fail
      go_roundw
      case rel=>exact⟨i+1,by go_num,hlt,ht2,by first|rfl|trivial⟩
      case measure=>simp[intOf];omega
   ·have hE:false=A:=by
     have:=ht.out
     rw[dropEnd (xs:=xs) (by omega)] at this;exact this
    clear ht;subst hE;go_wp2_with fail
    go_ret;exact⟨rfl,rfl⟩
 ·rw[if_pos hn];have d1:((xs.length:Int) != n)=true:=by simpa using hn
  clear hn hxc;go_enter Tryz.func195, Tryz.ntmps195
  go_wp2;go_ret;exact⟨rfl,rfl⟩
end Go.Proofs.YtcnedkkcgdkioaaGreat
