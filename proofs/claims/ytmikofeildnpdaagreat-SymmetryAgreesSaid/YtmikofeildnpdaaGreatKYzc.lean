/- Texts of this claim, put together: ZA ZE RB ZF ZH. -/
import Derived.Test.YtmikofeildnpdaaGreatKYzb
import Derived.Test.YtmikofeildnpdaaGreatKYv
import Derived.Lib.SliceRun
import Derived.Test.YtmikofeildnpdaaGreatKYp
import Derived.Test.YtmikofeildnpdaaGreatKYl
import Derived.Test.YtmikofeildnpdaaGreatKYs
import Derived.Test.YtmikofeildnpdaaGreatKYk
import Derived.Test.YtmikofeildnpdaaGreatKYu
import Derived.Deep.Cut

set_option maxRecDepth 100000
set_option maxHeartbeats 12800000
/- inclusion.Equivalent. -/
namespace Go.Proofs.YtmikofeildnpdaaGreat
open Go.RowKit
theorem equivC {w:World} {u v:Value} {m n:Int} {aa bb:List (List (List Int))} (ha:AdvC w u m aa) (hb:AdvC w v n bb) (he:eqErr m n aa bb=0) (wa:WfS aa) (wb:WfS bb) (la:aa.length≤100) (lb:bb.length≤100) (ma:∀ s∈aa,s.length≤50000) (mb:∀ s∈bb,s.length≤50000) (mna:movesN aa≤1000000000) (mnb:movesN bb≤1000000000) :
  Calls Tryz.prog 43 #[u,v] w fun e w'=>∃ l r,e = .returned (.tuple #[l,.bool r,.int .i64 0])∧(r=true↔eqW aa bb)∧Below w.heap.size w w':=by
 have HA:=Lib.hid ha
 have HB:=Lib.hid hb
 obtain ⟨xa,xc,hu⟩:=advShape' ha.adv
 obtain ⟨ya,yc,hv⟩:=advShape' hb.adv
 subst hu hv
 obtain ⟨W1,hW1⟩:=exF ((w.alloc (.cells #[.int .i64 m,.slice xa aa.length xc] 24)).alloc (.cells #[.int .i64 n,.slice ya bb.length yc] 24))
 obtain ⟨hb1,⟨p0,p1⟩,⟨q0,q1⟩,_,_⟩:=boxAdv2 hW1
 have HX:=bothC (ha.adv.keep hb1) (hb.adv.keep hb1) mna mnb
 rw [he] at HX
 replace HX:=Lib.hid HX
 have HS:=Lib.hid (fun W (h:Below W1.heap.size W1 W)=>searchC ((HA.out.keep hb1).keep h) ((HB.out.keep hb1).keep h) wa wb la lb ma mb)
 have hK:=Lib.hid (fun W (hb:Below W1.heap.size W1 W)=>And.intro (cell_kept hb p0) (And.intro (cell_kept hb p1) (And.intro (cell_kept hb q0) (cell_kept hb q1))))
 clear ha hb he wa wb la lb ma mb mna mnb
 go_enter Tryz.func43, Tryz.ntmps43
 go_wp2_with fail
 rw [← hW1]
 replace hW1:=Lib.hid hW1
 refine HX.out.mono ?_
 rintro e W2 ⟨rfl,hb2⟩
 clear p0 p1 q0 q1
 obtain ⟨k0,k1,k2,k3⟩:=hK.out W2 hb2
 go_wp2_with fail
 refine (HS.out W2 hb2).mono ?_
 rintro e W3 ⟨l,wd,rfl,hor,hb3⟩
 have hb13:=bt hb1 (btt hb2 hb3) hb1.size
 clear k0 k1 k2 k3 hK HS HX HA HB
 rcases hor with ⟨heq,rfl⟩ | ⟨hne,p,k,c,rfl,hk⟩
 ·have hq:=Lib.run_eql_slice_nil (P:=Tryz.prog) W3 78 87 none 0 0 0 0 (by kernel_rfl)
  simp only [Option.isNone_none] at hq
  go_wp2
  go_ret3
  exact ⟨_,true,rfl,⟨fun _=>heq,fun _=>rfl⟩,hb13⟩
 ·have hq:=Lib.run_eql_slice_nil (P:=Tryz.prog) W3 78 87 (some p) k c 0 0 (by kernel_rfl)
  simp only [Option.isNone_some] at hq
  go_wp2
  go_ret3
  exact ⟨_,false,rfl,⟨fun h=>(by cases h),fun h=>absurd h hne⟩,hb13⟩
end Go.Proofs.YtmikofeildnpdaaGreat

/- symmetry.chosen, relate.kept: walks. -/
namespace Go.Proofs.YtmikofeildnpdaaGreat
open Go.RowKit
theorem OII.form2 {w:World} {B n:Nat} {v:Value} {xss:List (List Int)} (h:OII w B v n xss) (hn:0 < n):∃ g cap,v = .slice (some ⟨g,0,none⟩) n cap:=by
 obtain ⟨vs,h1,_⟩:=h
 rcases h1.2 with ⟨_,h0⟩ | ⟨g,cap,cur,rfl,_⟩
 ·omega
 ·exact ⟨g,cap,rfl⟩
theorem chosenG {w:World} {v:Value} {B0:Nat} {caps:Array Value} {l:List (List Int)} {p:List Int→Bool} (h:OII w B0 v l.length l) (hl:l.length≤1000)
  (HF:∀ W,Below w.heap.size w W→∀ x∈l,∀ u,OI W 0 u x.length x→Calls Tryz.prog 58 (#[u]++caps) W fun e w'=>e = .returned (.tuple #[.bool (p x),.int .i64 0])∧Below W.heap.size W w') :
  Calls Tryz.prog 57 #[v,.func (.func 58) #[] caps] w (RII w (l.filter p) 0):=by
 have h':=Lib.hid h
 obtain ⟨va,vc,rfl⟩:=h.shape
 replace HF:=Lib.hid HF
 have ho0:OII w w.heap.size (.slice none 0 0) ((l.take 0).filter p).length ((l.take 0).filter p):=OII.nil _ _
 have hb0:=Below.refl w.heap.size w
 clear h
 go_enter Tryz.func57, Tryz.ntmps57
 go_wp2_with fail
 go_loopw [6,13] (fun ov jv wr=>∃ k:Nat,jv = .int .i64 (k:Int)∧k≤l.length∧OII wr w.heap.size ov ((l.take k).filter p).length ((l.take k).filter p)∧Hid (Below w.heap.size w wr)) (fun _ jv _=>l.length - (intOf jv).toNat)
 case atStart=>exact ⟨0,rfl,Nat.zero_le _,ho0,hb0⟩
 case round=>
  clear ho0 hb0
  obtain ⟨k,rfl,hk,ho,hb⟩:=hrel
  obtain ⟨oa,oc,hov⟩:=ho.shape
  subst hov
  by_cases hlt:k < l.length
  ·have hltI:(k:Int) < (l.length:Int):=by omega
   obtain ⟨g,cap,he⟩:=h'.out.form2 (by omega)
   obtain ⟨rfl,rfl⟩:va=some ⟨g,0,none⟩∧vc=cap:=by injection he with h1 h2 h3; exact ⟨h1,h3⟩
   obtain ⟨u,hcu,hu⟩:=OII.get (h'.out.keep hb.out) hlt
   obtain ⟨x,hx⟩:=exE (l.getD k [])
   have hxm:x∈l:=by rw [← hx]; exact getD_mem hlt
   rw [hx] at hu
   obtain ⟨ua,uc,huv⟩:=hu.shape
   subst huv
   have hfs:(l.take (k+1)).filter p=(l.take k).filter p++if p x then [x] else []:=by
    rw [take_snoc hlt [],hx,List.filter_append]
    cases hp:p x <;> simp [hp]
   have HC:=HF.out wr hb.out x hxm _ hu
   obtain ⟨N,hN⟩:=exE (((l.take k).filter p).length)
   have hNl:N≤l.length:=by rw [← hN]; exact Nat.le_trans (List.length_filter_le _ _) (by rw [List.length_take]; omega)
   rw [hN] at ho ⊢
   cases hp:p x with
   | true=>
    rw [hp] at HC
    rw [if_pos hp] at hfs
    replace HC:=Lib.hid HC
    have hfl:((l.take (k+1)).filter p).length=N+1:=by rw [hfs,List.length_append,hN]; rfl
    replace hfs:=Lib.hid hfs
    replace hfl:=Lib.hid hfl
    replace hN:=Lib.hid hN
    clear hx he
    go_wp2_with fail
    refine HC.out.mono ?_
    rintro e w1 ⟨rfl,hb1⟩
    have ho1:=ho.keep hb1
    have hu1:=hu.keep hb1
    have hbw:=bt hb.out hb1 hb.out.size
    clear ho hu hcu
    go_wp2_with (at_builtin; refine wpApp1S rfl _ _ rfl rfl ho1 rfl hu1 rfl (by omega) hbw.size ?_; intro v2 w2 ho2 hb2 hm2)
    have hfin:OII w2 w.heap.size v2 ((l.take (k+1)).filter p).length ((l.take (k+1)).filter p):=by rw [hfl.out,hfs.out]; exact ho2
    clear ho2 ho1
    go_wp2_with fail
    go_roundw
    case rel=>exact ⟨k+1,by go_num,by omega,hfin,hbw.trans hb2⟩
    case measure=>simp [intOf]; omega
   | false=>
    rw [hp] at HC
    rw [if_neg (by rw [hp]; decide),List.append_nil] at hfs
    replace HC:=Lib.hid HC
    have hfl:((l.take (k+1)).filter p).length=N:=by rw [hfs,hN]
    replace hfs:=Lib.hid hfs
    replace hfl:=Lib.hid hfl
    replace hN:=Lib.hid hN
    clear hx he
    go_wp2_with fail
    refine HC.out.mono ?_
    rintro e w1 ⟨rfl,hb1⟩
    have hbw:=bt hb.out hb1 hb.out.size
    have hfin:OII w1 w.heap.size (.slice oa N oc) ((l.take (k+1)).filter p).length ((l.take (k+1)).filter p):=by rw [hfl.out,hfs.out]; exact ho.keep hb1
    clear ho hu hcu
    go_wp2_with fail
    go_roundw
    case rel=>exact ⟨k+1,by go_num,by omega,hfin,hbw⟩
    case measure=>simp [intOf]; omega
  ·obtain rfl:k=l.length:=by omega
   rw [List.take_length] at ho ⊢
   go_wp2
   go_ret2
   exact ⟨_,rfl,ho,hb.out⟩
theorem chosenS {w:World} {v:Value} {B0:Nat} {caps:Array Value} {l:List (List Int)} {p:List Int→Bool} (h:OII w B0 v l.length l) (hl:l.length≤1000)
  (HF:∀ W,Below w.heap.size w W→∀ x∈l,∀ u,OI W 0 u x.length x→Calls Tryz.prog 80 (#[u]++caps) W fun e w'=>e = .returned (.tuple #[.bool (p x),.int .i64 0])∧Below W.heap.size W w') :
  Calls Tryz.prog 57 #[v,.func (.func 80) #[] caps] w (RII w (l.filter p) 0):=by
 have h':=Lib.hid h
 obtain ⟨va,vc,rfl⟩:=h.shape
 replace HF:=Lib.hid HF
 have ho0:OII w w.heap.size (.slice none 0 0) ((l.take 0).filter p).length ((l.take 0).filter p):=OII.nil _ _
 have hb0:=Below.refl w.heap.size w
 clear h
 go_enter Tryz.func57, Tryz.ntmps57
 go_wp2_with fail
 go_loopw [6,13] (fun ov jv wr=>∃ k:Nat,jv = .int .i64 (k:Int)∧k≤l.length∧OII wr w.heap.size ov ((l.take k).filter p).length ((l.take k).filter p)∧Hid (Below w.heap.size w wr)) (fun _ jv _=>l.length - (intOf jv).toNat)
 case atStart=>exact ⟨0,rfl,Nat.zero_le _,ho0,hb0⟩
 case round=>
  clear ho0 hb0
  obtain ⟨k,rfl,hk,ho,hb⟩:=hrel
  obtain ⟨oa,oc,hov⟩:=ho.shape
  subst hov
  by_cases hlt:k < l.length
  ·have hltI:(k:Int) < (l.length:Int):=by omega
   obtain ⟨g,cap,he⟩:=h'.out.form2 (by omega)
   obtain ⟨rfl,rfl⟩:va=some ⟨g,0,none⟩∧vc=cap:=by injection he with h1 h2 h3; exact ⟨h1,h3⟩
   obtain ⟨u,hcu,hu⟩:=OII.get (h'.out.keep hb.out) hlt
   obtain ⟨x,hx⟩:=exE (l.getD k [])
   have hxm:x∈l:=by rw [← hx]; exact getD_mem hlt
   rw [hx] at hu
   obtain ⟨ua,uc,huv⟩:=hu.shape
   subst huv
   have hfs:(l.take (k+1)).filter p=(l.take k).filter p++if p x then [x] else []:=by
    rw [take_snoc hlt [],hx,List.filter_append]
    cases hp:p x <;> simp [hp]
   have HC:=HF.out wr hb.out x hxm _ hu
   obtain ⟨N,hN⟩:=exE (((l.take k).filter p).length)
   have hNl:N≤l.length:=by rw [← hN]; exact Nat.le_trans (List.length_filter_le _ _) (by rw [List.length_take]; omega)
   rw [hN] at ho ⊢
   cases hp:p x with
   | true=>
    rw [hp] at HC
    rw [if_pos hp] at hfs
    replace HC:=Lib.hid HC
    have hfl:((l.take (k+1)).filter p).length=N+1:=by rw [hfs,List.length_append,hN]; rfl
    replace hfs:=Lib.hid hfs
    replace hfl:=Lib.hid hfl
    replace hN:=Lib.hid hN
    clear hx he
    go_wp2_with fail
    refine HC.out.mono ?_
    rintro e w1 ⟨rfl,hb1⟩
    have ho1:=ho.keep hb1
    have hu1:=hu.keep hb1
    have hbw:=bt hb.out hb1 hb.out.size
    clear ho hu hcu
    go_wp2_with (at_builtin; refine wpApp1S rfl _ _ rfl rfl ho1 rfl hu1 rfl (by omega) hbw.size ?_; intro v2 w2 ho2 hb2 hm2)
    have hfin:OII w2 w.heap.size v2 ((l.take (k+1)).filter p).length ((l.take (k+1)).filter p):=by rw [hfl.out,hfs.out]; exact ho2
    clear ho2 ho1
    go_wp2_with fail
    go_roundw
    case rel=>exact ⟨k+1,by go_num,by omega,hfin,hbw.trans hb2⟩
    case measure=>simp [intOf]; omega
   | false=>
    rw [hp] at HC
    rw [if_neg (by rw [hp]; decide),List.append_nil] at hfs
    replace HC:=Lib.hid HC
    have hfl:((l.take (k+1)).filter p).length=N:=by rw [hfs,hN]
    replace hfs:=Lib.hid hfs
    replace hfl:=Lib.hid hfl
    replace hN:=Lib.hid hN
    clear hx he
    go_wp2_with fail
    refine HC.out.mono ?_
    rintro e w1 ⟨rfl,hb1⟩
    have hbw:=bt hb.out hb1 hb.out.size
    have hfin:OII w1 w.heap.size (.slice oa N oc) ((l.take (k+1)).filter p).length ((l.take (k+1)).filter p):=by rw [hfl.out,hfs.out]; exact ho.keep hb1
    clear ho hu hcu
    go_wp2_with fail
    go_roundw
    case rel=>exact ⟨k+1,by go_num,by omega,hfin,hbw⟩
    case measure=>simp [intOf]; omega
  ·obtain rfl:k=l.length:=by omega
   rw [List.take_length] at ho ⊢
   go_wp2
   go_ret2
   exact ⟨_,rfl,ho,hb.out⟩
theorem keptS {w:World} {v:Value} {B0:Nat} {caps:Array Value} {l:List (List Int)} {p:List Int→Bool} (h:OII w B0 v l.length l) (hl:l.length≤1000)
  (HF:∀ W,Below w.heap.size w W→∀ x∈l,∀ u,OI W 0 u x.length x→Calls Tryz.prog 120 (#[u]++caps) W fun e w'=>e = .returned (.bool (p x))∧Below W.heap.size W w') :
  Calls Tryz.prog 119 #[v,.func (.func 120) #[] caps] w fun e w'=>∃ r,e = .returned r∧OII w' w.heap.size r (l.filter p).length (l.filter p)∧Below w.heap.size w w':=by
 have h':=Lib.hid h
 obtain ⟨va,vc,rfl⟩:=h.shape
 replace HF:=Lib.hid HF
 have ho0:OII w w.heap.size (.slice none 0 0) ((l.take 0).filter p).length ((l.take 0).filter p):=OII.nil _ _
 have hb0:=Below.refl w.heap.size w
 clear h
 go_enter Tryz.func119, Tryz.ntmps119
 go_wp2_with fail
 go_loopw [5,10] (fun ov jv wr=>∃ k:Nat,jv = .int .i64 (k:Int)∧k≤l.length∧OII wr w.heap.size ov ((l.take k).filter p).length ((l.take k).filter p)∧Hid (Below w.heap.size w wr)) (fun _ jv _=>l.length - (intOf jv).toNat)
 case atStart=>exact ⟨0,rfl,Nat.zero_le _,ho0,hb0⟩
 case round=>
  clear ho0 hb0
  obtain ⟨k,rfl,hk,ho,hb⟩:=hrel
  obtain ⟨oa,oc,hov⟩:=ho.shape
  subst hov
  by_cases hlt:k < l.length
  ·have hltI:(k:Int) < (l.length:Int):=by omega
   obtain ⟨g,cap,he⟩:=h'.out.form2 (by omega)
   obtain ⟨rfl,rfl⟩:va=some ⟨g,0,none⟩∧vc=cap:=by injection he with h1 h2 h3; exact ⟨h1,h3⟩
   obtain ⟨u,hcu,hu⟩:=OII.get (h'.out.keep hb.out) hlt
   obtain ⟨x,hx⟩:=exE (l.getD k [])
   have hxm:x∈l:=by rw [← hx]; exact getD_mem hlt
   rw [hx] at hu
   obtain ⟨ua,uc,huv⟩:=hu.shape
   subst huv
   have hfs:(l.take (k+1)).filter p=(l.take k).filter p++if p x then [x] else []:=by
    rw [take_snoc hlt [],hx,List.filter_append]
    cases hp:p x <;> simp [hp]
   have HC:=HF.out wr hb.out x hxm _ hu
   obtain ⟨N,hN⟩:=exE (((l.take k).filter p).length)
   have hNl:N≤l.length:=by rw [← hN]; exact Nat.le_trans (List.length_filter_le _ _) (by rw [List.length_take]; omega)
   rw [hN] at ho ⊢
   cases hp:p x with
   | true=>
    rw [hp] at HC
    rw [if_pos hp] at hfs
    replace HC:=Lib.hid HC
    have hfl:((l.take (k+1)).filter p).length=N+1:=by rw [hfs,List.length_append,hN]; rfl
    replace hfs:=Lib.hid hfs
    replace hfl:=Lib.hid hfl
    replace hN:=Lib.hid hN
    clear hx he
    go_wp2_with fail
    refine HC.out.mono ?_
    rintro e w1 ⟨rfl,hb1⟩
    have ho1:=ho.keep hb1
    have hu1:=hu.keep hb1
    have hbw:=bt hb.out hb1 hb.out.size
    clear ho hu hcu
    go_wp2_with (at_builtin; refine wpApp1S rfl _ _ rfl rfl ho1 rfl hu1 rfl (by omega) hbw.size ?_; intro v2 w2 ho2 hb2 hm2)
    have hfin:OII w2 w.heap.size v2 ((l.take (k+1)).filter p).length ((l.take (k+1)).filter p):=by rw [hfl.out,hfs.out]; exact ho2
    clear ho2 ho1
    go_wp2_with fail
    go_roundw
    case rel=>exact ⟨k+1,by go_num,by omega,hfin,hbw.trans hb2⟩
    case measure=>simp [intOf]; omega
   | false=>
    rw [hp] at HC
    rw [if_neg (by rw [hp]; decide),List.append_nil] at hfs
    replace HC:=Lib.hid HC
    have hfl:((l.take (k+1)).filter p).length=N:=by rw [hfs,hN]
    replace hfs:=Lib.hid hfs
    replace hfl:=Lib.hid hfl
    replace hN:=Lib.hid hN
    clear hx he
    go_wp2_with fail
    refine HC.out.mono ?_
    rintro e w1 ⟨rfl,hb1⟩
    have hbw:=bt hb.out hb1 hb.out.size
    have hfin:OII w1 w.heap.size (.slice oa N oc) ((l.take (k+1)).filter p).length ((l.take (k+1)).filter p):=by rw [hfl.out,hfs.out]; exact ho.keep hb1
    clear ho hu hcu
    go_wp2_with fail
    go_roundw
    case rel=>exact ⟨k+1,by go_num,by omega,hfin,hbw⟩
    case measure=>simp [intOf]; omega
  ·obtain rfl:k=l.length:=by omega
   rw [List.take_length] at ho ⊢
   go_wp2
   go_ret
   exact ⟨_,rfl,ho,hb.out⟩
end Go.Proofs.YtmikofeildnpdaaGreat

/- symmetry.fits, and the reference's renaming; symmetry.renamed$1. -/
namespace Go.Proofs.YtmikofeildnpdaaGreat
open Go.RowKit
def fitE (a:List Int) (n:Int):Int:=if chk a ≠ 0 then chk a else if (a.length:Int) ≠ n then 22 else 0
theorem fitsC {w:World} {v:Value} {a:List Int} (h:Ints w v a) (n:Int):Calls Tryz.prog 51 #[v,.int .i64 n] w fun e w'=>e = .returned (.int .i64 (fitE a n))∧Below w.heap.size w w':=by
 have H:=Lib.hid (check h)
 obtain ⟨aa,ac,ab,ao,rfl,ha,hc,hl⟩:=h
 clear ha hc
 obtain ⟨E,hE⟩:=exE (chk a)
 rw [hE] at H
 by_cases hz:E=0
 ·subst hz
  by_cases hn:(a.length:Int)=n
  ·have hv:=Lib.hid (show fitE a n=0 by rw [fitE,if_neg (fun h=>h hE),if_neg (fun h=>h hn)])
   have hb:((a.length:Int) != n)=false:=by simp [hn]
   clear hE hn
   go_enter Tryz.func51, Tryz.ntmps51
   go_wp2_with (go_at_call 65; refine H.out.mono ?_; rintro e w1 ⟨rfl,hq⟩)
   go_ret
   exact ⟨ret_int hv.out.symm,hq⟩
  ·have hv:=Lib.hid (show fitE a n=22 by rw [fitE,if_neg (fun h=>h hE),if_pos hn])
   have hb:((a.length:Int) != n)=true:=by simp [hn]
   clear hE hn
   go_enter Tryz.func51, Tryz.ntmps51
   go_wp2_with (go_at_call 65; refine H.out.mono ?_; rintro e w1 ⟨rfl,hq⟩)
   go_ret
   exact ⟨ret_int hv.out.symm,hq⟩
 ·have hv:=Lib.hid (show fitE a n=E by rw [fitE,hE,if_pos hz])
  have hb:(E != 0)=true:=by simp [hz]
  clear hE
  go_enter Tryz.func51, Tryz.ntmps51
  go_wp2_with (go_at_call 65; refine H.out.mono ?_; rintro e w1 ⟨rfl,hq⟩)
  go_ret
  exact ⟨ret_int hv.out.symm,hq⟩
theorem refFits {w:World} {v:Value} {a:List Int} (h:Ints w v a) (n:Int):Calls Tryz.prog 53 #[.int .i64 n,v] w fun e w'=>e = .returned (.int .i64 (fitE a n))∧Qt w w':=by
 have H:=Lib.hid (refCheck h)
 obtain ⟨aa,ac,ab,ao,rfl,ha,hc,hl⟩:=h
 clear ha hc
 obtain ⟨E,hE⟩:=exE (chk a)
 rw [hE] at H
 by_cases hz:E=0
 ·subst hz
  by_cases hn:(a.length:Int)=n
  ·have hv:=Lib.hid (show fitE a n=0 by rw [fitE,if_neg (fun h=>h hE),if_neg (fun h=>h hn)])
   have hb:((a.length:Int) != n)=false:=by simp [hn]
   clear hE hn
   go_enter Tryz.func53, Tryz.ntmps53
   go_wp2_with (go_at_call 30; refine H.out.mono ?_; rintro e w1 ⟨rfl,hq⟩)
   go_ret
   exact ⟨ret_int hv.out.symm,hq⟩
  ·have hv:=Lib.hid (show fitE a n=22 by rw [fitE,if_neg (fun h=>h hE),if_pos hn])
   have hb:((a.length:Int) != n)=true:=by simp [hn]
   clear hE hn
   go_enter Tryz.func53, Tryz.ntmps53
   go_wp2_with (go_at_call 30; refine H.out.mono ?_; rintro e w1 ⟨rfl,hq⟩)
   go_ret
   exact ⟨ret_int hv.out.symm,hq⟩
 ·have hv:=Lib.hid (show fitE a n=E by rw [fitE,hE,if_pos hz])
  have hb:(E != 0)=true:=by simp [hz]
  clear hE
  go_enter Tryz.func53, Tryz.ntmps53
  go_wp2_with (go_at_call 30; refine H.out.mono ?_; rintro e w1 ⟨rfl,hq⟩)
  go_ret
  exact ⟨ret_int hv.out.symm,hq⟩
end Go.Proofs.YtmikofeildnpdaaGreat

/- symmetry.Permute, Invariant, Group. -/
namespace Go.Proofs.YtmikofeildnpdaaGreat
open Go.RowKit
def perE (n:Int) (ss:List (List (List Int))) (a:List Int):Int:=if chkA n ss ≠ 0 then chkA n ss else fitE a n
theorem OwAdv.zero (w:World):OwAdv w (.agg #[.int .i64 0,.slice none 0 0]) 0 []:=⟨_,rfl,OwX.nil _ _,by decide,by simp⟩
theorem fit_isP {n:Nat} {a:List Int} (h1:1≤n) (h5:n≤5):fitE a (n:Int)=0↔IsP n a:=by
 unfold fitE
 constructor
 ·intro h
  split at h
  ·rename_i k; exact absurd h k
  ·rename_i k
   split at h
   ·cases h
   ·rename_i k2
    have hz:=Decidable.not_not.1 k
    have hl:a.length=n:=by have:=Decidable.not_not.1 k2; omega
    have:=(chk_iff.1 hz).2
    rwa [hl] at this
 ·intro h
  rw [if_neg (fun k=>k (chk_of h1 h5 h)),if_neg (fun k=>k (by rw [h.1]))]
theorem mem8 {w:World} {v:Value} {n:Int} {ss:List (List (List Int))} (h:AdvV w v n ss):∀ s∈ss,∀ m∈s,m.length=8:=fun s hs m hm=>by
 obtain ⟨sv,_,a,c,b,off,_,_,hc,_⟩:=h
 obtain ⟨j,hj,rfl⟩:=List.mem_iff_getElem.1 hs
 obtain ⟨u,_,_,_,_,_,_,_,hk,_⟩:=hc j hj
 rw [getD_eq hj] at hk
 obtain ⟨i,hi,rfl⟩:=List.mem_iff_getElem.1 hm
 have:=(hk i hi).1
 rwa [getD_eq hi] at this
theorem wfN_of {w:World} {v:Value} {n:Int} {ss:List (List (List Int))} (h:AdvV w v n ss) (hz:chkA n ss=0):∃ k:Nat,n=(k:Int)∧WfN k ss:=by
 have h1:=(chkA_facts hz).1
 obtain ⟨k,rfl⟩:∃ k:Nat,n=(k:Int):=⟨n.toNat,by omega⟩
 exact ⟨k,rfl,WfN.of (mem8 h) hz⟩
theorem permuteBad {w:World} {v u:Value} {n:Int} {a:List Int} {ss:List (List (List Int))} (hA:AdvV w v n ss) (hu:Ints w u a) (hm:movesN ss≤1000000000) (hE:perE n ss a ≠ 0) :
  Calls Tryz.prog 13 #[v,u] w fun e w'=>e = .returned (.tuple #[.agg #[.int .i64 0,.slice none 0 0],.int .i64 (perE n ss a)])∧Below w.heap.size w w':=by
 obtain ⟨xa,xc,hv⟩:=advShape' hA
 subst hv
 obtain ⟨W1,hW1⟩:=exF ((w.alloc (.cells #[.int .i64 n,.slice xa ss.length xc] 24)).alloc (.cells #[.int .i64 0,.slice none 0 0] 24))
 obtain ⟨hb1,⟨p0,p1⟩,⟨q0,q1⟩,hm1,_⟩:=boxAdv2 hW1
 have HX:=checkA (hA.keep hb1) hm
 have HF:=Lib.hid (fun W (h:Below w.heap.size w W)=>fitsC (hu.keep h) n)
 have hK:=Lib.hid (fun W (hb:Below W1.heap.size W1 W)=>And.intro (cell_kept hb p0) (cell_kept hb p1))
 obtain ⟨E,hE1⟩:=exE (chkA n ss)
 obtain ⟨F,hF1⟩:=exE (fitE a n)
 have hr:perE n ss a=if E ≠ 0 then E else F:=by rw [perE,hE1,hF1]
 rw [hE1] at HX
 rw [hr] at hE ⊢
 simp only [hF1] at HF
 replace HX:=Lib.hid HX
 obtain ⟨ua,uc,hus⟩:∃ ua uc,u = .slice ua a.length uc:=by obtain ⟨ua,uc,_,_,h,_⟩:=hu; exact ⟨ua,uc,h⟩
 subst hus
 clear hr hE1 hF1 hA hu
 by_cases h1:E=0
 ·subst h1
  rw [if_neg (fun h=>h rfl)] at hE ⊢
  have hFb:(F != 0)=true:=by simp [hE]
  go_enter Tryz.func13, Tryz.ntmps13
  go_wp2_with fail
  rw [← hW1]
  replace hW1:=Lib.hid hW1
  refine HX.out.mono ?_
  rintro e W2 ⟨rfl,hb2⟩
  clear p0 p1 q0 q1
  obtain ⟨k0,k1⟩:=hK.out W2 hb2
  go_wp2_with fail
  refine (HF.out W2 (bt hb1 hb2 hb1.size)).mono ?_
  rintro e W3 ⟨rfl,hb3⟩
  have hb13:=btt hb2 hb3
  have m3:=(hb13.block _ (Array.getElem?_eq_some_iff.1 hm1).1).trans hm1
  obtain ⟨z0,z1⟩:=boxL2 m3
  obtain ⟨f0,f1⟩:=freeL2 m3
  have hfin:=bt hb1 hb13 hb1.size
  clear k0 k1 HX HF hK hm1
  go_wp2
  refine storeEnd2 (u0:=.int .i64 0) (u1:=.slice none 0 0) m3 ?_
  intro W9 hW9 hb9 _ _ e0 e1
  rw [← hW9]
  refine bodyPost_ret (v:=.tuple #[.agg #[.int .i64 0,.slice none 0 0],.int .i64 F]) (by simp [results,Tryz.results13,go_sem,e0,e1]) rfl ?_
  exact ⟨rfl,hb9 _ _ (by omega) hfin⟩
 ·rw [if_pos h1]
  have hEb:(E != 0)=true:=by simp [h1]
  go_enter Tryz.func13, Tryz.ntmps13
  go_wp2_with fail
  rw [← hW1]
  replace hW1:=Lib.hid hW1
  refine HX.out.mono ?_
  rintro e W3 ⟨rfl,hb13⟩
  clear p0 p1 q0 q1
  have m3:=(hb13.block _ (Array.getElem?_eq_some_iff.1 hm1).1).trans hm1
  obtain ⟨z0,z1⟩:=boxL2 m3
  obtain ⟨f0,f1⟩:=freeL2 m3
  have hfin:=bt hb1 hb13 hb1.size
  clear HX HF hK hm1
  go_wp2
  refine storeEnd2 (u0:=.int .i64 0) (u1:=.slice none 0 0) m3 ?_
  intro W9 hW9 hb9 _ _ e0 e1
  rw [← hW9]
  refine bodyPost_ret (v:=.tuple #[.agg #[.int .i64 0,.slice none 0 0],.int .i64 E]) (by simp [results,Tryz.results13,go_sem,e0,e1]) rfl ?_
  exact ⟨rfl,hb9 _ _ (by omega) hfin⟩
theorem permuteGood {w:World} {v u:Value} {n:Nat} {a:List Int} {ss:List (List (List Int))} (hA:AdvV w v n ss) (hu:Ints w u a) (hm:movesN ss≤1000000000) (hW:WfN n ss) (ha:IsP n a) :
  Calls Tryz.prog 13 #[v,u] w fun e w'=>∃ r,e = .returned (.tuple #[r,.int .i64 0])∧OwAdv w' r n (renA a ss)∧Below w.heap.size w w':=by
 have hAk:=Lib.hid hA
 obtain ⟨xa,xc,hv⟩:=advShape' hA
 subst hv
 obtain ⟨W1,hW1⟩:=exF ((w.alloc (.cells #[.int .i64 (n:Int),.slice xa ss.length xc] 24)).alloc (.cells #[.int .i64 0,.slice none 0 0] 24))
 obtain ⟨hb1,⟨p0,p1⟩,⟨q0,q1⟩,hm1,_⟩:=boxAdv2 hW1
 have HX:=checkA (hA.keep hb1) hm
 have HF:=fun W (h:Below w.heap.size w W)=>fitsC (hu.keep h) (n:Int)
 have HR:=Lib.hid (fun W (h:Below w.heap.size w W)=>renamedC (hAk.out.keep h) hW ha (hu.keep h))
 have hK:=Lib.hid (fun W (hb:Below W1.heap.size W1 W)=>And.intro (cell_kept hb p0) (cell_kept hb p1))
 rw [hW.chk] at HX
 simp only [(fit_isP hW.h1 hW.h5).2 ha] at HF
 replace HF:=Lib.hid HF
 replace HX:=Lib.hid HX
 obtain ⟨ua,uc,hus⟩:∃ ua uc,u = .slice ua a.length uc:=by obtain ⟨ua,uc,_,_,h,_⟩:=hu; exact ⟨ua,uc,h⟩
 subst hus
 clear hA hu hW ha
 go_enter Tryz.func13, Tryz.ntmps13
 go_wp2_with fail
 rw [← hW1]
 replace hW1:=Lib.hid hW1
 refine HX.out.mono ?_
 rintro e W2 ⟨rfl,hb2⟩
 clear p0 p1 q0 q1
 obtain ⟨k0,k1⟩:=hK.out W2 hb2
 go_wp2_with fail
 refine (HF.out W2 (bt hb1 hb2 hb1.size)).mono ?_
 rintro e W3 ⟨rfl,hb3⟩
 clear k0 k1
 have hb13:=btt hb2 hb3
 obtain ⟨k0,k1⟩:=hK.out W3 hb13
 go_wp2_with fail
 refine (HR.out W3 (bt hb1 hb13 hb1.size)).mono ?_
 rintro e W4 ⟨r,rfl,hO,hb4⟩
 have hb14:=btt hb13 hb4
 have m3:=(hb14.block _ (Array.getElem?_eq_some_iff.1 hm1).1).trans hm1
 obtain ⟨z0,z1⟩:=boxL2 m3
 obtain ⟨f0,f1⟩:=freeL2 m3
 have hfin:=bt hb1 hb14 hb1.size
 obtain ⟨sv,rfl,hO1,hO2⟩:=hO
 obtain ⟨ra,rc,rfl⟩:=hO1.shape
 obtain ⟨RS,hRS⟩:=exE (renA a ss)
 rw [hRS] at hO1 hO2 ⊢
 replace hRS:=Lib.hid hRS
 clear k0 k1 HX HF HR hK hm1 hAk
 go_wp2
 refine storeEnd2 (u0:=.int .i64 (n:Int)) (u1:=.slice ra RS.length rc) m3 ?_
 intro W9 hW9 hb9 hk9 _ e0 e1
 rw [← hW9]
 refine bodyPost_ret (v:=.tuple #[.agg #[.int .i64 (n:Int),.slice ra RS.length rc],.int .i64 0]) (by simp [results,Tryz.results13,go_sem,e0,e1]) rfl ?_
 exact ⟨_,rfl,by rw [hRS.out]; exact ⟨_,rfl,hO1.other (ESt.stab (by decide)) (by decide) hk9,hO2⟩,hb9 _ _ (by omega) hfin⟩
noncomputable def kpG (ss:List (List (List Int))) (a:List Int):Bool:=@decide (kpA ss a) (Classical.propDecidable _)
theorem kpG_iff {ss:List (List (List Int))} {a:List Int}:kpG ss a=true↔kpA ss a:=@decide_eq_true_iff _ (Classical.propDecidable _)
noncomputable def invR (n:Int) (ss:List (List (List Int))) (a:List Int):Bool:=if perE n ss a=0 then kpG ss a else false
structure FewS (ss:List (List (List Int))):Prop where
 l:ss.length≤100
 m:movesN ss≤50000
theorem FewS.st {ss:List (List (List Int))} (h:FewS ss):∀ s∈ss,s.length≤50000:=fun _ hs=>Nat.le_trans (mem_movesN hs) h.m
theorem FewS.ren {ss:List (List (List Int))} (h:FewS ss) (a:List Int):FewS (renA a ss):=⟨by rw [renA,List.length_map]; exact h.l,by rw [movesN_ren]; exact h.m⟩
theorem eqErr_z21 {n:Nat} {xs ys:List (List (List Int))} (hx:WfN n xs) (hy:WfN n ys):eqErr n n xs ys=0:=by
 rw [eqErr,hx.chk,hy.chk]; simp
theorem invariantC {w:World} {v u:Value} {n:Int} {a:List Int} {ss:List (List (List Int))} (hA:AdvC w v n ss) (hu:Ints w u a) (hF:FewS ss) :
  Calls Tryz.prog 15 #[v,u] w fun e w'=>e = .returned (.tuple #[.bool (invR n ss a),.int .i64 (perE n ss a)])∧Below w.heap.size w w':=by
 have hAk:=Lib.hid hA
 have hm:movesN ss≤1000000000:=by have:=hF.m; omega
 obtain ⟨xa,xc,hv⟩:=advShape' hA.adv
 subst hv
 obtain ⟨ua,uc,hus⟩:∃ ua uc,u = .slice ua a.length uc:=by obtain ⟨ua,uc,_,_,h,_⟩:=hu; exact ⟨ua,uc,h⟩
 subst hus
 obtain ⟨W1,hW1⟩:=exF (w.alloc (.cells #[.int .i64 n,.slice xa ss.length xc] 24))
 obtain ⟨hb1,p0,p1,_⟩:=boxAdv hW1
 have hK:=Lib.hid (fun W (hb:Below W1.heap.size W1 W)=>And.intro (cell_kept hb p0) (cell_kept hb p1))
 obtain ⟨E,hE⟩:=exE (perE n ss a)
 obtain ⟨R,hR⟩:=exE (invR n ss a)
 by_cases h0:E=0
 ·subst h0
  have hcz:chkA n ss=0:=by
   unfold perE at hE
   split at hE
   ·rename_i k; exact absurd hE k
   ·rename_i k; exact Decidable.not_not.1 k
  obtain ⟨k,rfl,hW⟩:=wfN_of hA.adv hcz
  have ha:IsP k a:=by
   unfold perE at hE
   rw [if_neg (fun h=>h hcz)] at hE
   exact (fit_isP hW.h1 hW.h5).1 hE
  have hWr:=hW.ren ha
  have HP:=Lib.hid (permuteGood (hA.adv.keep hb1) (hu.keep hb1) hm hW ha)
  have HE:=Lib.hid (fun W (h:Below W1.heap.size W1 W) (r:Value) (hr:OwAdv W r k (renA a ss))=>equivC ((hA.keep hb1).keep h) hr.advC (eqErr_z21 hW hWr) hW.s hWr.s hF.l (hF.ren a).l hF.st (hF.ren a).st hm (by rw [movesN_ren]; exact hm))
  have hRk:Hid (∀ r:Bool,(r=true↔eqW ss (renA a ss))→r=R):=fun r hr=>by
   rw [← hR,invR,if_pos hE,Bool.eq_iff_iff,hr,kpG_iff]; exact Iff.rfl
  rw [hE,hR]
  obtain ⟨RS,hRS⟩:=exE (renA a ss)
  rw [hRS] at HP HE hRk
  clear hA hu hW ha hWr hF hE hR hRS
  go_enter Tryz.func15, Tryz.ntmps15
  go_wp2_with fail
  rw [← hW1]
  replace hW1:=Lib.hid hW1
  refine HP.out.mono ?_
  rintro e W2 ⟨r,rfl,hO,hb2⟩
  have hOk:=Lib.hid hO
  obtain ⟨sv,rfl,hO1,_⟩:=hO
  obtain ⟨ra,rc,rfl⟩:=hO1.shape
  obtain ⟨W3,hW3⟩:=exF (W2.alloc (.cells #[.int .i64 (k:Int),.slice ra RS.length rc] 24))
  obtain ⟨hb3,r0,r1,_⟩:=boxAdv hW3
  have hb13:=btt hb2 hb3
  clear p0 p1
  obtain ⟨p0,p1⟩:=hK.out W3 hb13
  have HE3:=Lib.hid (HE.out W3 hb13 _ (hOk.out.keep hb3))
  clear HE hK hO1 hOk HP
  go_upto_region 2 with fail
  rw [← hW3]
  replace hW3:=Lib.hid hW3
  go_wp2_with fail
  refine HE3.out.mono ?_
  rintro e W4 ⟨l,rr,rfl,hrr,hb4⟩
  have hrR:=hRk.out rr hrr
  subst hrR
  have hfin:=bt hb1 (btt hb13 hb4) hb1.size
  clear hrr hRk HE3 p0 p1 r0 r1
  go_wp2
  go_ret2
  exact ⟨rfl,hfin⟩
 ·have HP:=permuteBad (hA.adv.keep hb1) (hu.keep hb1) hm (by rw [hE]; exact h0)
  rw [hE] at HP
  have hRf:R=false:=by rw [← hR,invR,hE,if_neg h0]
  subst hRf
  rw [hE,hR]
  replace HP:=Lib.hid HP
  have hEb:(E != 0)=true:=by simp [h0]
  clear hA hu hE hR
  go_enter Tryz.func15, Tryz.ntmps15
  go_wp2_with fail
  rw [← hW1]
  replace hW1:=Lib.hid hW1
  refine HP.out.mono ?_
  rintro e W2 ⟨rfl,hb2⟩
  clear p0 p1 hK HP
  go_wp2
  go_ret2
  exact ⟨rfl,by first | exact bt hb1 (hb2.alloc (Nat.le_refl _) _) hb1.size | exact bt hb1 (hb2.alloc hb2.size _) hb1.size⟩
end Go.Proofs.YtmikofeildnpdaaGreat

/- symmetry.Group. -/
namespace Go.Proofs.YtmikofeildnpdaaGreat
open Go.RowKit
noncomputable def grpL (n:Int) (ss:List (List (List Int))):List (List Int):=if chkA n ss=0 then (everyL n.toNat).filter (kpG ss) else []
theorem perE_zero {n:Nat} {ss:List (List (List Int))} {a:List Int} (hW:WfN n ss) (ha:IsP n a):perE n ss a=0:=by
 rw [perE,if_neg (fun h=>h hW.chk)]; exact (fit_isP hW.h1 hW.h5).2 ha
theorem every_len {n:Nat} (h5:n≤5):(everyL n).length≤1000:=by
 have:n=0∨n=1∨n=2∨n=3∨n=4∨n=5:=by omega
 rcases this with rfl | rfl | rfl | rfl | rfl | rfl <;> decide +kernel
theorem group1 {w:World} {v:Value} {b n:Nat} {ss:List (List (List Int))} (hA:AdvC w v n ss) (hbx:w.heap[b]? = some (.cells v.cells 24)) (hF:FewS ss) (hW:WfN n ss) {x:List Int} (hx:IsP n x) {u:Value} (hu:Ints w u x) :
  Calls Tryz.prog 58 #[u,.pointer (some ⟨b,0,none⟩)] w fun e w'=>e = .returned (.tuple #[.bool (kpG ss x),.int .i64 0])∧Below w.heap.size w w':=by
 have HI:=invariantC hA hu hF
 rw [invR,if_pos (perE_zero hW hx),perE_zero hW hx] at HI
 replace HI:=Lib.hid HI
 obtain ⟨xa,xc,hv⟩:=advShape' hA.adv
 subst hv
 obtain ⟨ua,uc,hus⟩:∃ ua uc,u = .slice ua x.length uc:=by obtain ⟨ua,uc,_,_,h,_⟩:=hu; exact ⟨ua,uc,h⟩
 subst hus
 obtain ⟨p0,p1⟩:=boxL2 (show w.heap[b]? = some (.cells #[.int .i64 (n:Int),.slice xa ss.length xc] 24) from hbx)
 obtain ⟨B,hB⟩:=exE (kpG ss x)
 rw [hB] at HI ⊢
 clear hA hF hW hx hu hbx hB
 go_enter Tryz.func58, Tryz.ntmps58
 go_wp2_with fail
 refine HI.out.mono ?_
 rintro e w1 ⟨rfl,hb1⟩
 go_wp2
 go_ret2
 exact ⟨rfl,hb1⟩
theorem groupC {w:World} {v:Value} {n:Int} {ss:List (List (List Int))} (hA:AdvC w v n ss) (hF:FewS ss):Calls Tryz.prog 18 #[v] w (RII w (grpL n ss) (chkA n ss)):=by
 have hAk:=Lib.hid hA
 have hm:movesN ss≤1000000000:=by have:=hF.m; omega
 obtain ⟨xa,xc,hv⟩:=advShape' hA.adv
 subst hv
 obtain ⟨W1,hW1⟩:=exF (w.alloc (.cells #[.int .i64 n,.slice xa ss.length xc] 24))
 obtain ⟨hb1,p0,p1,m1⟩:=boxAdv hW1
 have hK:=Lib.hid (fun W (hb:Below W1.heap.size W1 W)=>And.intro (cell_kept hb p0) (cell_kept hb p1))
 have HX:=checkA (hA.adv.keep hb1) hm
 obtain ⟨E,hE⟩:=exE (chkA n ss)
 rw [hE] at HX
 replace HX:=Lib.hid HX
 by_cases h0:E=0
 ·subst h0
  obtain ⟨k,rfl,hW⟩:=wfN_of hA.adv hE
  have hgl:grpL k ss=(everyL k).filter (kpG ss):=by rw [grpL,if_pos hE,Int.toNat_natCast]
  have hne:numE (k:Int)=0:=by unfold numE; rw [if_neg]; have:=hW.h1; have:=hW.h5; omega
  have hal:allL (k:Int)=everyL k:=by unfold allL; rw [if_pos hne,Int.toNat_natCast]
  have HAll:=fun W=>allCall (k:Int) W
  simp only [hne,hal] at HAll
  replace HAll:=Lib.hid HAll
  have HCh:=Lib.hid (fun W (hbW:Below W1.heap.size W1 W) (r:Value) B0 (hO:OII W B0 r (everyL k).length (everyL k))=>chosenG (caps:=#[.pointer (some ⟨w.heap.size,0,none⟩)]) (p:=kpG ss) hO (every_len hW.h5) fun W' hbW' x hx u hu=>by
   have hx':=mem_everyL.1 hx
   have hbb:=btt hbW hbW'
   exact group1 ((hAk.out.keep hb1).keep hbb) ((hbb.block _ (Array.getElem?_eq_some_iff.1 m1).1).trans m1) hF hW hx' (hu.ints (by have:=hx'.1; have:=hW.h5; omega)))
  rw [hgl,hE]
  clear hA hF hW hE hgl hne hal
  go_enter Tryz.func18, Tryz.ntmps18
  go_wp2_with fail
  rw [← hW1]
  replace hW1:=Lib.hid hW1
  refine HX.out.mono ?_
  rintro e W2 ⟨rfl,hb2⟩
  clear p0 p1
  obtain ⟨p0,p1⟩:=hK.out W2 hb2
  go_wp2_with fail
  refine (HAll.out W2).mono ?_
  rintro e W3 ⟨r,rfl,hO,hb3⟩
  have hOk:=Lib.hid hO
  obtain ⟨ra,rc,rfl⟩:=hO.shape
  have hb13:=btt hb2 hb3
  have HC3:=Lib.hid (HCh.out W3 hb13 _ _ hOk.out)
  clear p0 p1 hK HX HAll HCh hO
  go_wp2_with fail
  refine HC3.out.mono ?_
  rintro e W4 ⟨r2,rfl,hO2,hb4⟩
  obtain ⟨ra2,rc2,rfl⟩:=hO2.shape
  have hfin:=bt hb1 (btt hb13 hb4) hb1.size
  have hO3:=Lib.hid (hO2.base (B':=w.heap.size) (bt hb1 hb13 hb1.size).size)
  clear hO2 HC3
  go_wp2
  go_ret2
  exact ⟨_,rfl,hO3.out,hfin⟩
 ·have hgl:grpL n ss = []:=by rw [grpL,if_neg (by rw [hE]; exact h0)]
  rw [hgl,hE]
  have hEb:(E != 0)=true:=by simp [h0]
  clear hA hF hE hgl
  go_enter Tryz.func18, Tryz.ntmps18
  go_wp2_with fail
  rw [← hW1]
  replace hW1:=Lib.hid hW1
  refine HX.out.mono ?_
  rintro e W2 ⟨rfl,hb2⟩
  clear p0 p1 hK HX
  go_wp2
  go_ret2
  exact ⟨_,rfl,OII.nil _ _,bt hb1 hb2 hb1.size⟩
end Go.Proofs.YtmikofeildnpdaaGreat
