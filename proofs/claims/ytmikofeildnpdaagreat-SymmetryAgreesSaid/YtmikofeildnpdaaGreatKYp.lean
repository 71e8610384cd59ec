/- Texts of this claim, put together: TC Lf Lg QN. -/
import Derived.Test.YtmikofeildnpdaaGreatKYo
import Derived.Test.YtmikofeildnpdaaGreatKYn
import Derived.Test.YtmikofeildnpdaaGreatKYj

set_option maxRecDepth 100000
set_option maxHeartbeats 12800000
/- task.has, task.vectors. -/
namespace Go.Proofs.YtmikofeildnpdaaGreat
open Go.RowKit
theorem Ints.shape {w:World} {v:Value} {xs:List Int} (h:Ints w v xs):∃ a c,v = .slice a xs.length c:=by obtain ⟨a,c,_,_,h,_⟩:=h; exact ⟨a,c,h⟩
theorem Intss.shape {w:World} {v:Value} {xs:List (List Int)} (h:Intss w v xs):∃ a c,v = .slice a xs.length c:=by obtain ⟨a,c,_,_,h,_⟩:=h; exact ⟨a,c,h⟩
theorem hasOne {w:World} {u vv:Value} {bv:Nat} {x y:List Int} (hx:Ints w u y) (cv:w.cell? ⟨bv,0,none⟩=some vv) (hv:Ints w vv x) :
  Calls Tryz.prog 220 #[u,.pointer (some ⟨bv,0,none⟩)] w fun e w'=>e = .returned (.bool (decide (y=x)))∧Below w.heap.size w w':=by
 have HE:=Lib.hid (eqInts hx hv)
 obtain ⟨ua,uc,hu⟩:=hx.shape
 obtain ⟨va,vc,hvv⟩:=hv.shape
 subst hu hvv
 obtain ⟨A,hA⟩:∃ A,decide (y=x)=A:=⟨_,rfl⟩
 rw [hA] at HE ⊢
 replace hA:=Lib.hid hA
 clear hx hv
 go_enter Tryz.func220, Tryz.ntmps220
 go_wp2_with fail
 refine HE.out.mono ?_
 rintro e w' ⟨rfl,hq⟩
 have hb:=hq.below
 go_wp2
 go_ret
 exact ⟨rfl,hb⟩
theorem hasIndex {w:World} {u vv:Value} {bv:Nat} {xs:List (List Int)} {x:List Int} (hx:Intss w u xs) (cv:w.cell? ⟨bv,0,none⟩=some vv) (hv:Ints w vv x) :
  Calls Tryz.prog 71 #[u,.func (.func 220) #[] #[.pointer (some ⟨bv,0,none⟩)]] w fun e w'=>∃ z:Int,e = .returned (.int .i64 z)∧decide (0≤z)=decide (x∈xs)∧Below w.heap.size w w':=by
 obtain ⟨xa,xc,xb,xo,rfl,hxa,hxc,hxl⟩:=hx
 replace hxc:=Lib.hid hxc
 have h0:Hid (x ∉ xs.take 0):=by show ¬ _; simp
 have hvh:=Lib.hid hv
 obtain ⟨va,vc,hvv⟩:=hv.shape
 subst hvv
 clear hv
 go_enter Tryz.func71, Tryz.ntmps71
 go_wp2_with fail
 go_loopw [8] (fun iv wr=>∃ i:Nat,iv = .int .i64 i∧i≤xs.length∧Hid (x ∉ xs.take i)∧Below w.heap.size w wr) (fun iv _=>xs.length - (intOf iv).toNat)
 case atStart=>exact ⟨0,rfl,by omega,h0,Below.refl _ _⟩
 case round=>
  clear h0
  obtain ⟨i,rfl,hi,hno,hbr⟩:=hrel
  by_cases hlt:i < xs.length
  ·obtain rfl:=hxa (by omega)
   obtain ⟨xu,hxi,hxk⟩:=hxc.out i hlt
   obtain ⟨y,hy⟩:=exE (xs.getD i [])
   rw [hy] at hxk
   have c0:=cell_kept hbr hxi
   have HC:=hasOne (hxk.keep hbr) (cell_kept hbr cv) (hvh.out.keep hbr)
   have hmem:y∈xs:=by rw [← hy,getD_eq hlt]; exact List.getElem_mem hlt
   have htk:xs.take (i+1)=xs.take i ++ [y]:=by rw [take_snoc hlt [],hy]
   obtain ⟨xsa,xsc,hxs⟩:=hxk.shape
   subst hxs
   clear hxk hy hxi
   by_cases he:y=x
   ·rw [decide_eq_true he] at HC
    replace HC:=Lib.hid HC
    have hres:Hid (decide (x∈xs)=true):=by show _=_; rw [← he]; exact decide_eq_true hmem
    have h0i:decide ((0:Int)≤(i:Int))=true:=decide_eq_true (by omega)
    clear htk hmem he hno
    go_wp2_with fail
    refine HC.out.mono ?_
    rintro e w' ⟨rfl,hb⟩
    have hbn:=btt hbr hb
    go_wp2
    go_ret
    exact ⟨_,rfl,by rw [hres.out]; exact h0i,hbn⟩
   ·rw [decide_eq_false he] at HC
    replace HC:=Lib.hid HC
    have hnx:Hid (x ∉ xs.take (i+1)):=by
     show ¬ _
     rw [htk,List.mem_append,List.mem_singleton]
     exact fun h=>h.elim hno.out fun h=>he h.symm
    clear htk hmem he hno
    go_wp2_with fail
    refine HC.out.mono ?_
    rintro e w' ⟨rfl,hb⟩
    have hbn:=btt hbr hb
    go_wp2
    go_roundw
    case rel=>exact ⟨i+1,by go_num,hlt,hnx,hbn⟩
    case measure=>simp [intOf]; omega
  ·have hres:Hid (decide (x∈xs)=false):=by
    show _=_
    have:=hno.out
    rw [List.take_of_length_le (by omega)] at this
    exact decide_eq_false this
   clear hno
   go_wp2
   go_ret
   exact ⟨_,rfl,by rw [hres.out]; rfl,hbr⟩
theorem hasContains {w:World} {u vv:Value} {bv:Nat} {xs:List (List Int)} {x:List Int} (hx:Intss w u xs) (cv:w.cell? ⟨bv,0,none⟩=some vv) (hv:Ints w vv x) :
  Calls Tryz.prog 26 #[u,.func (.func 220) #[] #[.pointer (some ⟨bv,0,none⟩)]] w fun e w'=>e = .returned (.bool (decide (x∈xs)))∧Below w.heap.size w w':=by
 have HI:=hasIndex hx cv hv
 obtain ⟨A,hA⟩:=exE (decide (x∈xs))
 rw [hA] at HI ⊢
 replace HI:=Lib.hid HI
 clear hA
 obtain ⟨ua,uc,hu⟩:=hx.shape
 subst hu
 clear hx hv
 go_enter Tryz.func26, Tryz.ntmps26
 go_wp2_with fail
 refine HI.out.mono ?_
 rintro e w' ⟨z,rfl,hz,hw'⟩
 go_wp2
 go_ret
 exact ⟨rfl,hw'⟩
theorem hasC {w:World} {u v:Value} {l:List (List Int)} {x:List Int} (hx:Intss w u l) (hv:Ints w v x) :
  Calls Tryz.prog 202 #[u,v] w fun e w'=>e = .returned (.bool (decide (x∈l)))∧Below w.heap.size w w':=by
 obtain ⟨va,vc,hvv⟩:=hv.shape
 subst hvv
 obtain ⟨W1,hW1⟩:=exF (w.alloc (.cells #[.slice va x.length vc] 25))
 have hb1:Below w.heap.size w W1:=by rw [hW1]; exact (Below.refl _ _).alloc (Nat.le_refl _) _
 have k1:W1.heap[w.heap.size]? = some (.cells #[.slice va x.length vc] 25 (0,0)):=by rw [hW1]; exact heap_alloc_new _ _
 have HC:=Lib.hid (hasContains (hx.keep hb1) (cell_of_one k1) (hv.keep hb1))
 obtain ⟨ua,uc,hu⟩:=hx.shape
 subst hu
 obtain ⟨A,hA⟩:=exE (decide (x∈l))
 rw [hA] at HC ⊢
 clear hx hv hA k1
 go_enter Tryz.func202, Tryz.ntmps202
 go_wp2_with fail
 rw [← hW1]
 replace hW1:=Lib.hid hW1
 refine HC.out.mono ?_
 rintro e w' ⟨rfl,hb2⟩
 have hb:=btt hb1 hb2
 go_wp2
 go_ret
 exact ⟨rfl,hb⟩
theorem firstE_step {f:Nat→Int} {m k:Nat} {F:Int} (h:firstE f (m+1) k=F) (h0:f k=0):firstE f m (k+1)=F:=by rw [firstE,if_neg (fun g=>g h0)] at h; exact h
theorem firstE_stop {f:Nat→Int} {m k:Nat} {F:Int} (h:firstE f (m+1) k=F) (h0:f k ≠ 0):f k=F:=by rw [firstE,if_pos h0] at h; exact h
theorem outE_eq {n o:Int} {l:List (List Int)} {k:Nat}:outE n o l k=if vecE (l.getD k []) n o ≠ 0 then vecE (l.getD k []) n o else if unordB l k=true then 14 else 0:=by
 unfold outE unordB; simp only [decide_eq_true_eq]
theorem calmE_eq {o l:List (List Int)} {k:Nat}:calmE o l k=if decide (l.getD k []∈o)=false then 6 else if unordB l k=true then 14 else 0:=by
 unfold calmE unordB; simp only [decide_eq_true_eq,decide_eq_false_iff_not]
theorem Intss.at {w:World} {a:Option Addr} {c:Nat} {l:List (List Int)} (h:Intss w (.slice a l.length c) l) (h0:0 < l.length):∃ b off,a=some ⟨b,off,none⟩∧∀ j,j < l.length→∃ u,w.cell? ⟨b,off+j,none⟩=some u∧Ints w u (l.getD j []):=by
 obtain ⟨a',c',b,off,hv,ha,hc,_⟩:=h
 injection hv with e1 _ _
 exact ⟨b,off,e1.trans (ha h0),hc⟩
theorem vectorsC {w:World} {n i o:Int} {ta:Option Addr} {tn tc:Nat} {u0 u1 u2:Value} {c:Cs} (h0:Ints w u0 c.1) (h1:Intss w u1 c.2.1) (h2:Intss w u2 c.2.2) :
  Calls Tryz.prog 165 #[.agg #[.int .i64 n,.int .i64 i,.int .i64 o,.slice ta tn tc],.agg #[u0,u1,u2]] w fun e w'=>e = .returned (.int .i64 (outsE n o c))∧Below w.heap.size w w':=by
 obtain ⟨a0,c0,hs0⟩:=h0.shape
 obtain ⟨a1,c1,hs1⟩:=h1.shape
 obtain ⟨a2,c2,hs2⟩:=h2.shape
 subst hs0 hs1 hs2
 obtain ⟨x0,l1,l2⟩:=c
 have hl2:l2.length≤5864062014805:=by obtain ⟨_,_,_,_,_,_,_,h⟩:=h2; exact h
 obtain ⟨n0,hn0⟩:=exE (x0.length)
 obtain ⟨W1,hW1⟩:=exF ((w.alloc (.cells #[.int .i64 n,.int .i64 i,.int .i64 o,.slice ta tn tc] 64)).alloc (.cells #[.slice a0 n0 c0,.slice a1 l1.length c1,.slice a2 l2.length c2] 128))
 have hb1:Below w.heap.size w W1:=by rw [hW1]; exact ((Below.refl _ w).alloc (Nat.le_refl _) _).alloc (by simp) _
 have kT:W1.heap[w.heap.size]? = some (.cells #[.int .i64 n,.int .i64 i,.int .i64 o,.slice ta tn tc] 64):=by
  rw [hW1]; exact (Below.heap_alloc _ _ _ (by simp)).trans (World.alloc_heap_new w _)
 have kC:W1.heap[w.heap.size+1]? = some (.cells #[.slice a0 n0 c0,.slice a1 l1.length c1,.slice a2 l2.length c2] 128):=by
  rw [hW1]
  have:=World.alloc_heap_new (w.alloc (.cells #[.int .i64 n,.int .i64 i,.int .i64 o,.slice ta tn tc] 64)) (.cells #[.slice a0 n0 c0,.slice a1 l1.length c1,.slice a2 l2.length c2] 128)
  rwa [World.size_alloc] at this
 have HK:=Lib.hid (fun W (hb:Below W1.heap.size W1 W)=>And.intro (cell_kept hb (show W1.cell? ⟨w.heap.size,0,none⟩=some (.int .i64 n) by rw [cell_of_row _ _ 0 _ _ _ kT]; rfl)) (And.intro (cell_kept hb (show W1.cell? ⟨w.heap.size,2,none⟩=some (.int .i64 o) by rw [cell_of_row _ _ 2 _ _ _ kT]; rfl)) (And.intro (cell_kept hb (show W1.cell? ⟨w.heap.size+1,1,none⟩=some (.slice a1 l1.length c1) by rw [cell_of_row _ _ 1 _ _ _ kC]; rfl)) (cell_kept hb (show W1.cell? ⟨w.heap.size+1,2,none⟩=some (.slice a2 l2.length c2) by rw [cell_of_row _ _ 2 _ _ _ kC]; rfl)))))
 have H1:=Lib.hid (fun W (hb:Below W1.heap.size W1 W)=>(h1.keep hb1).keep hb)
 have H2:=Lib.hid (fun W (hb:Below W1.heap.size W1 W)=>(h2.keep hb1).keep hb)
 obtain ⟨E,hE⟩:=exE (outsE n o (x0,l1,l2))
 rw [hE,hn0]
 unfold outsE at hE
 simp only at hE
 clear h0 h1 h2 kT kC
 obtain ⟨g0,g1,g2,g3⟩:=HK.out W1 (Below.refl _ _)
 rw [hW1] at g0 g1 g2 g3
 by_cases hlen:l1.length < 1∨1024 < l1.length
 ·rw [if_pos hlen] at hE
  replace hE:=Lib.hid hE
  rcases hlen with hl | hl
  ·have d1:decide ((l1.length:Int) < 1)=true:=decide_eq_true (by omega)
   clear hl
   go_enter Tryz.func165, Tryz.ntmps165
   go_wp2
   go_ret
   exact ⟨ret_int hE.out,by rw [← hW1]; exact hb1⟩
  ·have d1:decide ((l1.length:Int) < 1)=false:=decide_eq_false (by omega)
   have d2:decide ((1024:Int) < (l1.length:Int))=true:=decide_eq_true (by omega)
   clear hl
   go_enter Tryz.func165, Tryz.ntmps165
   go_wp2
   go_ret
   exact ⟨ret_int hE.out,by rw [← hW1]; exact hb1⟩
 ·rw [if_neg hlen] at hE
  obtain ⟨F1,hF1⟩:=exE (firstE (outE n o l1) l1.length 0)
  obtain ⟨F2,hF2⟩:=exE (firstE (calmE l1 l2) l2.length 0)
  rw [hF1,hF2] at hE
  have s1:Hid (firstE (outE n o l1) (l1.length - 0) 0=F1):=hF1
  have s2:Hid (firstE (calmE l1 l2) (l2.length - 0) 0=F2):=hF2
  replace hE:=Lib.hid hE
  have d1:decide ((l1.length:Int) < 1)=false:=decide_eq_false (by omega)
  have d2:decide ((1024:Int) < (l1.length:Int))=false:=decide_eq_false (by omega)
  have hl0:0 < l1.length:=by omega
  have hlb:l1.length≤1024:=by omega
  clear hlen hF1 hF2
  go_enter Tryz.func165, Tryz.ntmps165
  go_wp2_with fail
  rw [← hW1]
  replace hW1:=Lib.hid hW1
  clear g0 g1 g2 g3 d1 d2
  go_loopw [23] (fun iv wr=>∃ k:Nat,iv = .int .i64 k∧k≤l1.length∧Hid (firstE (outE n o l1) (l1.length - k) k=F1)∧Below W1.heap.size W1 wr) (fun iv _=>l1.length - (intOf iv).toNat)
  case atStart=>exact ⟨0,rfl,by omega,s1,Below.refl _ _⟩
  case round=>
   clear s1
   obtain ⟨k,rfl,hk,ht,hbr⟩:=hrel
   obtain ⟨g0,g1,g2,g3⟩:=HK.out wr hbr
   by_cases hlt:k < l1.length
   ·have ht1:=ht.out
    rw [show l1.length - k=(l1.length - (k+1))+1 by omega] at ht1
    obtain ⟨b,off,rfl,hc⟩:=(H1.out wr hbr).at hl0
    obtain ⟨u,cu,hu⟩:=hc k hlt
    have HV:=vectorC (n:=n) (most:=o) hu
    have HU:=Lib.hid (fun W (hb:Below wr.heap.size wr W)=>unordC ((H1.out wr hbr).keep hb) hlt)
    obtain ⟨ua,uc,hus⟩:=hu.shape
    subst hus
    obtain ⟨z,hz⟩:=exE (vecE (l1.getD k []) n o)
    obtain ⟨B,hB⟩:=exE (unordB l1 k)
    have hfk:=outE_eq (n:=n) (o:=o) (l:=l1) (k:=k)
    rw [hz,hB] at hfk
    rw [hz] at HV
    simp only [hB] at HU
    obtain ⟨m,hm⟩:=exE ((l1.getD k []).length)
    rw [hm] at cu HV
    replace HV:=Lib.hid HV
    clear hc hu hz hB hm ht
    by_cases hz0:z=0
    ·subst hz0
     rw [if_neg (fun h=>h rfl)] at hfk
     cases B
     ·have hn:=Lib.hid (firstE_step ht1 hfk)
      clear ht1 hfk
      go_wp2_with fail
      refine HV.out.mono ?_
      rintro e w2 ⟨rfl,hb2⟩
      obtain ⟨g0,g1,g2,g3⟩:=HK.out w2 (btt hbr hb2)
      go_wp2_with fail
      refine (HU.out w2 hb2).mono ?_
      rintro e w3 ⟨rfl,hb3⟩
      have hb03:=btt (btt hbr hb2) hb3
      go_wp2_with fail
      go_roundw
      case rel=>exact ⟨k+1,by go_num,hlt,hn,hb03⟩
      case measure=>simp [intOf]; omega
     ·have hn:=Lib.hid (firstE_stop ht1 (by rw [hfk]; decide))
      rw [hfk] at hn
      have hEE:Hid ((14:Int)=E):=by
       have:=hE.out
       rw [← hn.out] at this
       exact this
      clear ht1 hfk hn
      go_wp2_with fail
      refine HV.out.mono ?_
      rintro e w2 ⟨rfl,hb2⟩
      obtain ⟨g0,g1,g2,g3⟩:=HK.out w2 (btt hbr hb2)
      go_wp2_with fail
      refine (HU.out w2 hb2).mono ?_
      rintro e w3 ⟨rfl,hb3⟩
      have hb03:=btt hb1 (btt (btt hbr hb2) hb3)
      go_wp2_with fail
      go_ret
      exact ⟨ret_int hEE.out,hb03⟩
    ·rw [if_pos hz0] at hfk
     have hn:=firstE_stop ht1 (by rw [hfk]; exact hz0)
     rw [hfk] at hn
     have hEE:Hid (z=E):=by
      have:=hE.out
      rw [← hn,if_pos hz0] at this
      exact this
     have hz1:(z != 0)=true:=by simpa using hz0
     clear ht1 hfk hn
     go_wp2_with fail
     refine HV.out.mono ?_
     rintro e w2 ⟨rfl,hb2⟩
     have hb02:=btt hb1 (btt hbr hb2)
     go_wp2_with fail
     go_ret
     exact ⟨ret_int hEE.out,hb02⟩
   ·have hF:F1=0:=by
     have:=ht.out
     rw [show l1.length - k=0 by omega] at this
     exact this.symm
    have hEE:Hid (F2=E):=by
     have:=hE.out
     rw [hF,if_neg (fun h=>h rfl)] at this
     exact this
    clear ht hF hE
    go_wp2_with fail
    obtain ⟨wo,hwo⟩:=exF (wr)
    rw [← hwo]
    rw [← hwo] at hbr
    clear hwo g0 g1 g2 g3
    go_loopw [45] (fun iv wr=>∃ k:Nat,iv = .int .i64 k∧k≤l2.length∧Hid (firstE (calmE l1 l2) (l2.length - k) k=F2)∧Below W1.heap.size W1 wr) (fun iv _=>l2.length - (intOf iv).toNat)
    case atStart=>exact ⟨0,rfl,by omega,s2,hbr⟩
    case round=>
     clear s2 hbr
     obtain ⟨k,rfl,hk,ht,hbr⟩:=hrel
     obtain ⟨g0,g1,g2,g3⟩:=HK.out wr hbr
     by_cases hlt:k < l2.length
     ·have ht1:=ht.out
      rw [show l2.length - k=(l2.length - (k+1))+1 by omega] at ht1
      obtain ⟨b,off,rfl,hc⟩:=(H2.out wr hbr).at (by omega)
      obtain ⟨u,cu,hu⟩:=hc k hlt
      have HV:=hasC (H1.out wr hbr) hu
      have HU:=Lib.hid (fun W (hb:Below wr.heap.size wr W)=>unordC ((H2.out wr hbr).keep hb) hlt)
      obtain ⟨ua,uc,hus⟩:=hu.shape
      subst hus
      obtain ⟨A,hA⟩:=exE (decide (l2.getD k []∈l1))
      obtain ⟨B,hB⟩:=exE (unordB l2 k)
      have hfk:=calmE_eq (o:=l1) (l:=l2) (k:=k)
      rw [hA,hB] at hfk
      rw [hA] at HV
      simp only [hB] at HU
      obtain ⟨m,hm⟩:=exE ((l2.getD k []).length)
      rw [hm] at cu HV
      replace HV:=Lib.hid HV
      clear hc hu hA hB hm ht
      cases A
      ·rw [if_pos rfl] at hfk
       have hn:=firstE_stop ht1 (by rw [hfk]; decide)
       rw [hfk] at hn
       have hE6:Hid ((6:Int)=E):=by
        have:=hEE.out
        rw [← hn] at this
        exact this
       clear ht1 hfk hn
       go_wp2_with fail
       refine HV.out.mono ?_
       rintro e w2 ⟨rfl,hb2⟩
       have hb02:=btt hb1 (btt hbr hb2)
       go_wp2_with fail
       go_ret
       exact ⟨ret_int hE6.out,hb02⟩
      ·cases B
       ·have hn:=Lib.hid (firstE_step ht1 hfk)
        clear ht1 hfk
        go_wp2_with fail
        refine HV.out.mono ?_
        rintro e w2 ⟨rfl,hb2⟩
        obtain ⟨g0,g1,g2,g3⟩:=HK.out w2 (btt hbr hb2)
        go_wp2_with fail
        refine (HU.out w2 hb2).mono ?_
        rintro e w3 ⟨rfl,hb3⟩
        have hb03:=btt (btt hbr hb2) hb3
        go_wp2_with fail
        go_roundw
        case rel=>exact ⟨k+1,by go_num,hlt,hn,hb03⟩
        case measure=>simp [intOf]; omega
       ·have hn:=firstE_stop ht1 (by rw [hfk]; decide)
        rw [hfk] at hn
        have hE14:Hid ((14:Int)=E):=by
         have:=hEE.out
         rw [← hn] at this
         exact this
        clear ht1 hfk hn
        go_wp2_with fail
        refine HV.out.mono ?_
        rintro e w2 ⟨rfl,hb2⟩
        obtain ⟨g0,g1,g2,g3⟩:=HK.out w2 (btt hbr hb2)
        go_wp2_with fail
        refine (HU.out w2 hb2).mono ?_
        rintro e w3 ⟨rfl,hb3⟩
        have hb03:=btt hb1 (btt (btt hbr hb2) hb3)
        go_wp2_with fail
        go_ret
        exact ⟨ret_int hE14.out,hb03⟩
     ·have hE0:Hid ((0:Int)=E):=by
       have:=ht.out
       rw [show l2.length - k=0 by omega] at this
       rw [← hEE.out,← this]; rfl
      have hb03:=btt hb1 hbr
      clear ht
      go_wp2_with fail
      go_ret
      exact ⟨ret_int hE0.out,hb03⟩
end Go.Proofs.YtmikofeildnpdaaGreat

/- The law PermutationGroup: the walk. -/
namespace Go.Proofs.YtmikofeildnpdaaGreat
open Go.RowKit
theorem inverseP {n:Nat} (h1:1≤n) (h5:n≤5) {w:World} {u:Value} {a:List Int} (ha:IsP n a) (h:Ints w u a):Calls Tryz.prog 33 #[u] w (RI w (backL a) 0):=by
 have:=inverse h
 rwa [invL,if_pos (chk_of h1 h5 ha),chk_of h1 h5 ha] at this
theorem IsP.ints {n:Nat} (h5:n≤5) {w:World} {B m:Nat} {v:Value} {a:List Int} (ha:IsP n a) (h:OI w B v m a):Ints w v a:=h.ints (by have:=h.length; have:=ha.1; omega)
end Go.Proofs.YtmikofeildnpdaaGreat

/- Generated groups; the law PermutationCloses: the walk. -/
namespace Go.Proofs.YtmikofeildnpdaaGreat
structure Grp (n:Nat) (G:List (List Int)):Prop where
 nodup:G.Nodup
 isP:∀ y∈G,IsP n y
 one:oneL n∈G
 mul:∀ y∈G,∀ z∈G,timesL y z∈G
theorem closure_grp {n:Nat} (_hn:n≤5) {l G:List (List Int)} (hl:∀ a∈l,IsP n a) (hG:clGo l 3126 0 [oneL n]=some G) (hI:InvG n G):Grp n G∧∀ a∈l,a∈G:=by
 obtain ⟨h1,h2⟩:=clGo_sub hG (by intro j hj; omega)
 have hone:oneL n∈G:=h1 _ (by simp)
 have hmul:∀ y∈G,∀ z∈G,timesL y z∈G:=by
  have key:∀ y∈G,IsP n y∧∀ z∈G,timesL y z∈G:=by
   refine clGo_all (Q:=fun y=>IsP n y∧∀ z∈G,timesL y z∈G) ?_ ?_ hG
   ·rintro a ha y ⟨k1,k2⟩
    refine ⟨(hl a ha).times k1,fun z hz=>?_⟩
    rw [times_assoc k1.1 (hI.2 z hz)]
    exact h2 _ (k2 z hz) a ha
   ·intro y hy
    rw [List.mem_singleton.1 hy]
    exact ⟨IsP.one n,fun z hz=>by rw [times_one (hI.2 z hz)]; exact hz⟩
  exact fun y hy=>(key y hy).2
 refine ⟨⟨hI.1,hI.2,hone,hmul⟩,fun a ha=>?_⟩
 have:=h2 _ hone a ha
 rwa [one_times (hl a ha)] at this
theorem times_inj {n:Nat} (h1:1≤n) (h5:n≤5) {x y z:List Int} (hx:IsP n x) (hy:IsP n y) (hz:IsP n z) (h:timesL x y=timesL x z):y=z:=by
 have hc:=chk_of h1 h5 hx
 obtain ⟨k1,_,_⟩:=back_left hc
 have e1:=times_assoc (a:=backL x) hx.1 hy
 have e2:=times_assoc (a:=backL x) hx.1 hz
 rw [k1,hx.1] at e1 e2
 rw [times_one hy] at e1
 rw [times_one hz] at e2
 rw [e1,h,← e2]
theorem nodup_maps {f:List Int→List Int}:∀ {l:List (List Int)},l.Nodup→(∀ x∈l,∀ y∈l,f x=f y→x=y)→(l.map f).Nodup
 | [],_,_=>by simp
 | x::l,h,hf=>by
  rw [List.nodup_cons] at h
  rw [List.map_cons,List.nodup_cons]
  refine ⟨fun hm=>?_,nodup_maps h.2 fun a ha b hb=>hf a (by simp [ha]) b (by simp [hb])⟩
  obtain ⟨y,hy,e⟩:=List.mem_map.1 hm
  rw [hf y (by simp [hy]) x (by simp) e] at hy
  exact h.1 hy
theorem Grp.inv {n:Nat} (h1:1≤n) (h5:n≤5) {G:List (List Int)} (hG:Grp n G) {y:List Int} (hy:y∈G):backL y∈G:=by
 have hyP:=hG.isP y hy
 have hc:=chk_of h1 h5 hyP
 have hm:oneL n∈G.map (timesL y):=by
  by_cases h:oneL n∈G.map (timesL y)
  ·exact h
  ·have hnd:(G.map (timesL y)).Nodup:=nodup_maps hG.nodup fun a ha b hb e=>times_inj h1 h5 hyP (hG.isP a ha) (hG.isP b hb) e
   have:(oneL n::G.map (timesL y)).length≤G.length:=nodup_le (List.nodup_cons.2 ⟨h,hnd⟩) fun x hx=>by
    rcases List.mem_cons.1 hx with rfl | hx
    ·exact hG.one
    ·obtain ⟨z,hz,rfl⟩:=List.mem_map.1 hx
     exact hG.mul y hy z hz
   rw [List.length_cons,List.length_map] at this
   omega
 obtain ⟨z,hz,e⟩:=List.mem_map.1 hm
 obtain ⟨k1,k2,k3⟩:=back_left hc
 have hB:IsP n (backL y):=by have:=chk_isP k3; rwa [show (backL y).length=n by rw [backL,movedL_length,hyP.1]] at this
 have:z=backL y:=times_inj h1 h5 hyP (hG.isP z hz) hB (by rw [e,k2,hyP.1])
 rwa [← this]
theorem every_nodup (n:Nat) (hn:n≤5):(everyL n).Nodup:=
 (every_sorted n hn).imp fun {a b} h e=>by subst e; exact cmpL_asymm _ _ h h
end Go.Proofs.YtmikofeildnpdaaGreat
namespace Go.Proofs.YtmikofeildnpdaaGreat
open Go.RowKit
theorem OII.get {w:World} {B n gb c:Nat} {xss:List (List Int)} (h:OII w B (.slice (some ⟨gb,0,none⟩) n c) n xss) {j:Nat} (hj:j < n):∃ u,w.cell? ⟨gb,j,none⟩=some u∧OI w 0 u (xss.getD j []).length (xss.getD j []):=by
 obtain ⟨a,c',b,hv,ha,hc⟩:=h.open'
 injection hv with e1 _ _
 rw [ha (by omega)] at e1
 injection e1 with e1
 injection e1 with e1
 subst e1
 exact hc j hj
end Go.Proofs.YtmikofeildnpdaaGreat

/- Rounds with renamed processes. Plain lists. -/
namespace Go.Proofs.YtmikofeildnpdaaGreat
theorem twoI_pow {k:Nat} (h:k < 5):twoI (k:Int)=2 ^ k:=by
 have:k=0∨k=1∨k=2∨k=3∨k=4:=by omega
 rcases this with rfl | rfl | rfl | rfl | rfl <;> rfl
theorem hasI_bits {s:Int} {n k:Nat} (hk:k < n) (hn:n≤5):hasI s (k:Int)=((bitsL s n).getD k 0 == 1):=by
 have:(bitsL s n).getD k 0=s / 2 ^ k % 2:=by simp [bitsL,hk]
 rw [this,hasI,twoI_pow (by omega)]
theorem moved_at {n:Nat} {a v:List Int} (ha:IsP n a) {p:Nat} (hp:p < n):(movedL a v).getD (a.getD p 0).toNat 0=v.getD p 0:=by
 unfold movedL
 rw [ha.1]
 exact scat_get ha (Nat.le_refl n) p hp
theorem img_has {n:Nat} {a:List Int} (h1:1≤n) (h5:n≤5) (ha:IsP n a) {s:Int} (k0:0≤s) (k1:s < 2 ^ n) {p:Nat} (hp:p < n):hasI (imgP a s n) (a.getD p 0)=hasI s (p:Int):=by
 obtain ⟨e,_,_,_⟩:=set_facts (chk_of h1 h5 ha) ha k0 k1
 have hg:=ha.2.1 (a.getD p 0) (by rw [getD_eq (by rw [ha.1]; exact hp)]; exact List.getElem_mem _)
 have hn:(((a.getD p 0).toNat:Nat):Int)=a.getD p 0:=by omega
 rw [← hn,hasI_bits (s:=imgP a s n) (show (a.getD p 0).toNat < n by omega) h5,e,moved_at ha hp,hasI_bits hp h5]
theorem perm_onto {n:Nat} {a:List Int} (h1:1≤n) (h5:n≤5) (ha:IsP n a) {q:Nat} (hq:q < n):∃ p:Nat,p < n∧a.getD p 0=(q:Int):=by
 have hz:=chk_of h1 h5 ha
 obtain ⟨_,k2,k3⟩:=back_left hz
 have hb:=chk_isP k3
 have hbl:(backL a).length=n:=by rw [backL,movedL_length,ha.1]
 rw [hbl] at hb
 obtain ⟨g1,g2⟩:=hb.idx (q:=(backL a).getD q 0) (by rw [getD_eq (by rw [hbl]; exact hq)]; exact List.getElem_mem _)
 refine ⟨((backL a).getD q 0).toNat,g1,?_⟩
 have:=congrArg (fun l=>l.getD q 0) k2
 simp only [timesL_getD a (backL a) q (by rw [hbl]; exact hq)] at this
 rw [this,ha.1,oneL_getD hq]
def mkR (n:Nat) (hs:List Int) (f:Int):List Int:=(n:Int)::(hs++(List.replicate (5 - n) 0 ++ [f]))
structure RdN (n:Nat) (hs:List Int) (f:Int):Prop where
 len:hs.length=n
 rng:∀ x∈hs,0≤x∧x < 2 ^ n
 self:∀ p,p < n→hasI (hs.getD p 0) (p:Int)=true
 f0:0≤f
 f1:f < 2 ^ n
theorem mkR_len {n:Nat} {hs:List Int} {f:Int} (hn:n≤5) (h:hs.length=n):(mkR n hs f).length=7:=by
 simp [mkR,h]; omega
theorem mkR_inj {n:Nat} {hs hs':List Int} {f f':Int} (h:hs.length=n) (h':hs'.length=n) (e:mkR n hs f=mkR n hs' f'):hs=hs'∧f=f':=by
 unfold mkR at e
 injection e with _ e
 obtain ⟨e1,e2⟩:=List.append_inj e (by omega)
 exact ⟨e1,by simpa using e2⟩
theorem mkR_at {n:Nat} {hs:List Int} {f:Int} (h:hs.length=n) {p:Nat} (hp:p < n):(mkR n hs f).getD (1+p) 0=hs.getD p 0:=by
 rw [mkR,Nat.add_comm 1 p,List.getD_cons_succ,List.getD_eq_getElem?_getD,List.getElem?_append_left (by omega),← List.getD_eq_getElem?_getD]
theorem mkR_z {n:Nat} {hs:List Int} {f:Int} (h:hs.length=n) {p:Nat} (hp:n≤p) (h5:p < 5):(mkR n hs f).getD (1+p) 0=0:=by
 rw [mkR,Nat.add_comm 1 p,List.getD_cons_succ,List.getD_eq_getElem?_getD,List.getElem?_append_right (by omega),List.getElem?_append_left (by simp; omega),List.getElem?_replicate,if_pos (by omega)]; rfl
theorem mkR_f {n:Nat} {hs:List Int} {f:Int} (hn:n≤5) (h:hs.length=n):(mkR n hs f).getD 6 0=f:=by
 rw [mkR,List.getD_cons_succ,List.getD_eq_getElem?_getD,List.getElem?_append_right (by omega),List.getElem?_append_right (by simp; omega)]
 simp [show 5 - hs.length - (5 - n)=0 by omega]
theorem mkR_rows {n:Nat} {hs:List Int} {f:Int} (h:hs.length=n):((mkR n hs f).drop 1).take n=hs:=by
 rw [mkR,List.drop_succ_cons,List.drop_zero,List.take_append_of_le_length (by omega),List.take_of_length_le (by omega)]
def renR (a:List Int) (r:List Int):List Int:=mkR a.length (movedL a (((r.drop 1).take a.length).map fun x=>imgP a x a.length)) (imgP a (r.getD 6 0) a.length)
section
variable {n:Nat} {a b hs hs':List Int} {f f':Int}
theorem renR_mk (ha:IsP n a) (hn:n≤5) (h:hs.length=n):renR a (mkR n hs f)=mkR n (movedL a (hs.map fun x=>imgP a x n)) (imgP a f n):=by
 unfold renR
 rw [ha.1,mkR_rows h,mkR_f hn h]
theorem img_rng (h1:1≤n) (h5:n≤5) (ha:IsP n a) {s:Int} (k0:0≤s) (k1:s < 2 ^ n):0≤imgP a s n∧imgP a s n < 2 ^ n:=by
 obtain ⟨_,e1,e2,_⟩:=set_facts (chk_of h1 h5 ha) ha k0 k1
 exact ⟨e1,e2⟩
theorem moved_mem (h1:1≤n) (h5:n≤5) (ha:IsP n a) {v:List Int} (hv:v.length=n) {x:Int}:x∈movedL a v↔x∈v:=(moved_perm (chk_of h1 h5 ha) ha hv).mem_iff
theorem RdN.ren (h1:1≤n) (h5:n≤5) (ha:IsP n a) (h:RdN n hs f):RdN n (movedL a (hs.map fun x=>imgP a x n)) (imgP a f n) where
 len:=by rw [movedL_length,ha.1]
 rng x hx:=by
  rw [moved_mem h1 h5 ha (by rw [List.length_map]; exact h.len)] at hx
  obtain ⟨y,hy,rfl⟩:=List.mem_map.1 hx
  exact img_rng h1 h5 ha (h.rng y hy).1 (h.rng y hy).2
 self q hq:=by
  obtain ⟨p,hp,e⟩:=perm_onto h1 h5 ha hq
  have hm:=moved_at (v:=hs.map fun x=>imgP a x n) ha hp
  rw [e,Int.toNat_natCast] at hm
  have hpl:p < hs.length:=by rw [h.len]; exact hp
  have e2:(hs.map fun x=>imgP a x n).getD p 0=imgP a (hs.getD p 0) n:=by simp [hpl]
  rw [hm,e2,← e]
  obtain ⟨q0,q1⟩:=h.rng (hs.getD p 0) (by rw [getD_eq hpl]; exact List.getElem_mem hpl)
  rw [img_has h1 h5 ha q0 q1 hp]
  exact h.self p hp
 f0:=(img_rng h1 h5 ha h.f0 h.f1).1
 f1:=(img_rng h1 h5 ha h.f0 h.f1).2
theorem moved_map (h1:1≤n) (h5:n≤5) (ha:IsP n a) (g:Int→Int) {v:List Int} (hv:v.length=n):(movedL a v).map g=movedL a (v.map g):=by
 refine times_injR (chk_of h1 h5 ha) ha (by rw [List.length_map,movedL_length,ha.1]) (by rw [movedL_length,ha.1]) ?_
 rw [times_moved ha (by rw [List.length_map]; exact hv)]
 have:timesL ((movedL a v).map g) a=(timesL (movedL a v) a).map g:=by
  unfold timesL
  rw [List.map_map]
  refine List.map_congr_left fun q hq=>?_
  obtain ⟨g1,_⟩:=ha.idx hq
  simp [movedL_length,ha.1,g1]
 rw [this,times_moved ha hv]
theorem renR_times (h1:1≤n) (h5:n≤5) (ha:IsP n a) (hb:IsP n b) (h:RdN n hs f):renR a (renR b (mkR n hs f))=renR (timesL a b) (mkR n hs f):=by
 have hR:=h.ren h1 h5 hb
 rw [renR_mk hb h5 h.len,renR_mk ha h5 hR.len,renR_mk (ha.times hb) h5 h.len]
 have e1:imgP a (imgP b f n) n=imgP (timesL a b) f n:=set_set h1 h5 ha hb h.f0 h.f1
 rw [moved_map h1 h5 hb _ (by rw [List.length_map]; exact h.len),List.map_map,moved_moved h1 h5 ha hb (by rw [List.length_map]; exact h.len),e1]
 congr 2
 refine List.map_congr_left fun x hx=>?_
 exact set_set h1 h5 ha hb (h.rng x hx).1 (h.rng x hx).2
theorem bits_inj (h5:n≤5) {s t:Int} (s0:0≤s) (s1:s < 2 ^ n) (t0:0≤t) (t1:t < 2 ^ n) (e:bitsL s n=bitsL t n):s=t:=by
 have h:=List.all_eq_true.1 bits_inj_ok n (by rw [List.mem_range]; omega)
 have h:=List.all_eq_true.1 h s.toNat (by rw [List.mem_range]; exact (Int.toNat_lt s0).2 (by simpa using s1))
 have h:=List.all_eq_true.1 h t.toNat (by rw [List.mem_range]; exact (Int.toNat_lt t0).2 (by simpa using t1))
 have h:=of_decide_eq_true h
 rw [show ((s.toNat:Nat):Int)=s by omega,show ((t.toNat:Nat):Int)=t by omega] at h
 have:=h e
 omega
theorem moved_one {v:List Int} (hv:v.length=n):movedL (oneL n) v=v:=by
 have hp:=IsP.one n
 have:=times_moved hp hv
 rwa [times_oneR (by rw [movedL_length,oneL_length])] at this
theorem img_one (h1:1≤n) (h5:n≤5) {s:Int} (k0:0≤s) (k1:s < 2 ^ n):imgP (oneL n) s n=s:=by
 obtain ⟨e,e1,e2,_⟩:=set_facts (chk_of h1 h5 (IsP.one n)) (IsP.one n) k0 k1
 refine bits_inj h5 e1 e2 k0 k1 ?_
 rw [e,moved_one (bitsL_len s n)]
theorem renR_one (h1:1≤n) (h5:n≤5) (h:RdN n hs f):renR (oneL n) (mkR n hs f)=mkR n hs f:=by
 rw [renR_mk (IsP.one n) h5 h.len,img_one h1 h5 h.f0 h.f1]
 have:(hs.map fun x=>imgP (oneL n) x n)=hs:=by
  conv=>rhs; rw [← List.map_id hs]
  exact List.map_congr_left fun x hx=>img_one h1 h5 (h.rng x hx).1 (h.rng x hx).2
 rw [this,moved_one h.len]
theorem back_isP (h1:1≤n) (h5:n≤5) (ha:IsP n a):IsP n (backL a):=by
 obtain ⟨_,_,k3⟩:=back_left (chk_of h1 h5 ha)
 have h:=chk_isP k3
 rwa [show (backL a).length=n by rw [backL,movedL_length,ha.1]] at h
theorem renR_back (h1:1≤n) (h5:n≤5) (ha:IsP n a) (h:RdN n hs f):renR (backL a) (renR a (mkR n hs f))=mkR n hs f:=by
 rw [renR_times h1 h5 (back_isP h1 h5 ha) ha h,(back_left (chk_of h1 h5 ha)).1,ha.1,renR_one h1 h5 h]
theorem renR_inj (h1:1≤n) (h5:n≤5) (ha:IsP n a) (h:RdN n hs f) (h':RdN n hs' f') (e:renR a (mkR n hs f)=renR a (mkR n hs' f')):mkR n hs f=mkR n hs' f':=by
 rw [← renR_back h1 h5 ha h,e,renR_back h1 h5 ha h']
end
theorem hGo_iff {n:Int}:∀ {l:List Int} {p:Int},hGo n p l=0↔∀ i,i < l.length→hErr n (p+(i:Int)) (l.getD i 0)=0
 | [],p=>⟨fun _ i hi=>absurd hi (by simp),fun _=>rfl⟩
 | x::r,p=>by
  rw [hGo]
  by_cases h:hErr n p x=0
  ·rw [if_neg (fun k=>k h),hGo_iff]
   constructor
   ·intro g i hi
    cases i with
    | zero=>simpa using h
    | succ i=>
     have:=g i (by simpa using hi)
     rw [List.getD_cons_succ,show p+((i+1:Nat):Int)=p+1+(i:Int) by omega]
     exact this
   ·intro g i hi
    have:=g (i+1) (by simpa using hi)
    rwa [List.getD_cons_succ,show p+((i+1:Nat):Int)=p+1+(i:Int) by omega] at this
  ·rw [if_pos h]
   refine ⟨fun g=>absurd g h,fun g=>absurd ?_ h⟩
   have:=g 0 (by simp)
   simpa using this
theorem fullI_pow {n:Nat} (h5:n≤5) (h1:1≤n):fullI (n:Int)=2 ^ n - 1∧twoI (n:Int)=2 ^ n:=by
 have:n=1∨n=2∨n=3∨n=4∨n=5:=by omega
 rcases this with rfl | rfl | rfl | rfl | rfl <;> exact ⟨rfl,rfl⟩
theorem chkRd_mk {n:Nat} {hs:List Int} {f:Int} (h1:1≤n) (h5:n≤5) (h:RdN n hs f):chkRd (mkR n hs f)=0:=by
 obtain ⟨e1,e2⟩:=fullI_pow h5 h1
 have hg:chkGr (n:Int) (((mkR n hs f).drop 1).take 5)=0:=by
  rw [chkGr,if_neg (by omega),hGo_iff]
  intro i hi
  have hi5:i < 5:=by rw [List.length_take] at hi; omega
  have e:(((mkR n hs f).drop 1).take 5).getD i 0=(mkR n hs f).getD (1+i) 0:=by
   rw [List.getD_eq_getElem?_getD,List.getElem?_take,if_pos hi5,List.getElem?_drop,← List.getD_eq_getElem?_getD]
  rw [e,hErr]
  by_cases hin:i < n
  ·rw [if_neg (by omega),mkR_at h.len hin]
   obtain ⟨q0,q1⟩:=h.rng (hs.getD i 0) (by rw [getD_eq (by rw [h.len]; exact hin)]; exact List.getElem_mem _)
   rw [if_neg (by omega),show (0:Int)+(i:Int)=(i:Int) by omega,h.self i hin]; rfl
  ·rw [if_pos (by omega),mkR_z h.len (by omega) hi5,if_pos rfl]
 have e0:(mkR n hs f).getD 0 0=(n:Int):=rfl
 have hp:procE (n:Int)=0:=if_neg (by omega)
 have:=h.f0
 have:=h.f1
 rw [chkRd,e0,hg,if_neg (fun k=>k rfl),mkR_f h5 h.len,chkSet,hp,if_neg (fun k=>k rfl),if_neg (by omega)]
theorem rd_of {n:Nat} {r:List Int} (hl:r.length=7) (h:chkRd r=0) (hn:r.getD 0 0=(n:Int)):(1≤n∧n≤5)∧∃ hs f,RdN n hs f∧r=mkR n hs f:=by
 obtain ⟨m,h0,g1,g2,g3,g4,f,rfl⟩:=seven hl
 have hn:m=(n:Int):=hn
 subst hn
 have hg:chkGr (n:Int) [h0,g1,g2,g3,g4]=0:=by
  by_cases hc:chkGr (n:Int) [h0,g1,g2,g3,g4]=0
  ·exact hc
  ·rw [chkRd_1 hc] at h; exact h
 have hf:chkSet (n:Int) f=0:=by rw [chkRd_2 hg] at h; exact h
 rw [chkGr] at hg
 by_cases hb:(n:Int) < 1∨5 < (n:Int)
 ·rw [if_pos hb] at hg; cases hg
 rw [if_neg hb,hGo_iff] at hg
 have b1:1≤n:=by omega
 have b5:n≤5:=by omega
 obtain ⟨e1,e2⟩:=fullI_pow b5 b1
 have hp:procE (n:Int)=0:=if_neg hb
 rw [chkSet,hp,if_neg (fun k=>k rfl)] at hf
 have hf':0≤f∧f < 2 ^ n:=by
  by_cases hc:f < 0∨twoI (n:Int)≤f
  ·rw [if_pos hc] at hf; cases hf
  ·omega
 have hin:∀ i,i < n→(0 ≤ [h0,g1,g2,g3,g4].getD i 0∧[h0,g1,g2,g3,g4].getD i 0 < 2 ^ n)∧hasI ([h0,g1,g2,g3,g4].getD i 0) (i:Int)=true:=fun i hi=>by
  have:=hg i (by simp; omega)
  rw [hErr,if_neg (by omega),show (0:Int)+(i:Int)=(i:Int) by omega] at this
  split at this
  ·cases this
  ·split at this
   ·rename_i k1 k2
    exact ⟨by omega,k2⟩
   ·cases this
 have hout:∀ i,n≤i→i < 5→[h0,g1,g2,g3,g4].getD i 0=0:=fun i hi h5=>by
  have:=hg i (by simpa using h5)
  rw [hErr,if_pos (by omega)] at this
  split at this
  ·assumption
  ·cases this
 refine ⟨⟨b1,b5⟩,[h0,g1,g2,g3,g4].take n,f,⟨by simp; omega,fun x hx=>?_,fun p hp=>?_,hf'.1,hf'.2⟩,?_⟩
 ·obtain ⟨i,hi,rfl⟩:=List.mem_iff_getElem.1 hx
  have hin':=(hin i (by simp at hi; omega)).1
  rw [List.getElem_take]
  rwa [getD_eq (by simp at hi ⊢; omega)] at hin'
 ·have:=(hin p hp).2
  rw [List.getD_eq_getElem?_getD,List.getElem?_take,if_pos hp,← List.getD_eq_getElem?_getD]
  exact this
 ·have z4:=hout 4
  have z3:=hout 3
  have z2:=hout 2
  have z1:=hout 1
  have:n=1∨n=2∨n=3∨n=4∨n=5:=by omega
  rcases this with rfl | rfl | rfl | rfl | rfl
  ·obtain rfl:g1=0:=z1 (by omega) (by omega)
   obtain rfl:g2=0:=z2 (by omega) (by omega)
   obtain rfl:g3=0:=z3 (by omega) (by omega)
   obtain rfl:g4=0:=z4 (by omega) (by omega)
   rfl
  ·obtain rfl:g2=0:=z2 (by omega) (by omega)
   obtain rfl:g3=0:=z3 (by omega) (by omega)
   obtain rfl:g4=0:=z4 (by omega) (by omega)
   rfl
  ·obtain rfl:g3=0:=z3 (by omega) (by omega)
   obtain rfl:g4=0:=z4 (by omega) (by omega)
   rfl
  ·obtain rfl:g4=0:=z4 (by omega) (by omega)
   rfl
  ·rfl
end Go.Proofs.YtmikofeildnpdaaGreat
