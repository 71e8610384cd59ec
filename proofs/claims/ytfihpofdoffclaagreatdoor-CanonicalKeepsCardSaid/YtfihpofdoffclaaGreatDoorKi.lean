/- Texts of this claim, put together: C3. -/
import Derived.Test.YtfihpofdoffclaaGreatDoorKd
import Derived.Test.YtfihpofdoffclaaGreatDoorKh
import Derived.Deep.LoopGhost

/- The classes of the program. -/
namespace Go.Proofs.YtfihpofdoffclaaGreatDoor
open Go.RowKit Go.ChangeMaps Go.MapKept

theorem umRd : Tryz.prog.underlying 114 = some (.map 79 3) := by kernel_rfl
theorem umStr : Tryz.prog.underlying 115 = some (.map 9 3) := by kernel_rfl
theorem zInt : ∀ w, (zeroValue 3).run Tryz.prog w = .ok (.int .i64 0) w := fun w => by kernel_rfl
def strV (s : List UInt8) : Value := .string ⟨s.toArray⟩
theorem natI_len (l : List Nat) : (natI l).length = l.length := by simp [natI]
theorem natI_getD (l : List Nat) (j : Nat) : (natI l).getD j 0 = ((l.getD j 0 : Nat) : Int) := by
  simp only [natI, List.getD_eq_getElem?_getD, List.getElem?_map]
  cases l[j]? <;> simp
/-- What is asked of the states. -/
def ClsOK (ss : List (List (List Int))) : Prop := ss.length ≤ 90 ∧ movesN ss ≤ 90 ∧ 0 < ss.length ∧ ∀ s ∈ ss, 0 < s.length ∧ ∀ m ∈ s, WfR (rdOf m) ∧ m.length = 8 ∧ 0 ≤ m.getD 7 0 ∧ m.getD 7 0 < (ss.length : Int)

theorem mem_dd_nil {κ : Type} [DecidableEq κ] {l : List κ} {x : κ} (h : x ∈ dd [] l) : x ∈ l := by
  rcases mem_dd h with h | h
  · cases h
  · exact h
theorem keys_all (ss : List (List (List Int))) (R : List (List Int)) (out : List Nat) : keysL (ss.take ss.length) R out = keysL ss R out := by rw [List.take_length]
/-- The labels of the first states, and zeros. -/
def nxL (ss : List (List (List Int))) (R : List (List Int)) (out : List Nat) (i : Nat) : List Int := natI ((lbl (keysL ss R out)).take i ++ List.replicate (ss.length - i) 0)
theorem nxL_zero (ss : List (List (List Int))) (R : List (List Int)) (out : List Nat) : nxL ss R out 0 = List.replicate ss.length 0 := by simp [nxL, natI]
theorem nxL_all (ss : List (List (List Int))) (R : List (List Int)) (out : List Nat) : nxL ss R out ss.length = natI (lbl (keysL ss R out)) := by
  rw [nxL, Nat.sub_self, List.take_of_length_le (by rw [lbl_length, keysL, List.length_map]; exact Nat.le_refl _)]; simp
theorem nxL_step {ss : List (List (List Int))} {R : List (List Int)} {out : List Nat} {i : Nat} (h : i < ss.length) {ms : List (List Int)} (hm : ss.getD i [] = ms) :
    nxL ss R out (i + 1) = (nxL ss R out i).set i ((ixOf (dd [] (keysL (ss.take (i + 1)) R out)) (txs R out ms) : Nat) : Int) := by
  have hlen : (lbl (keysL ss R out)).length = ss.length := by rw [lbl_length, keysL, List.length_map]
  have hx : (lbl (keysL ss R out)).getD i 0 = ixOf (dd [] (keysL (ss.take (i + 1)) R out)) (txs R out ms) := by
    have hi : i < (keysL ss R out).length := by rw [keysL, List.length_map]; exact h
    rw [lbl_getD hi]
    show ixOf _ _ = _
    have e1 : (keysL ss R out)[i] = txs R out ms := by
      have : ss[i] = ms := by rw [← hm, getD_eq h]
      simp [keysL, this]
    have e2 : keysL ss R out = keysL (ss.take (i + 1)) R out ++ keysL (ss.drop (i + 1)) R out := by
      rw [keysL, keysL, keysL, ← List.map_append, List.take_append_drop]
    have e3 : dd [] (keysL ss R out) = dd (dd [] (keysL (ss.take (i + 1)) R out)) (keysL (ss.drop (i + 1)) R out) := by conv => lhs; rw [e2, dd_app]
    rw [e1, e3]
    have hm2 : txs R out ms ∈ keysL (ss.take (i + 1)) R out := by rw [keys_step h hm]; simp
    exact dd_idx (dd_mem hm2)
  rw [← hx]
  refine List.ext_getElem (by simp [nxL, natI, hlen]; omega) fun j h1 h2 => ?_
  simp only [nxL, natI, List.getElem_set, List.getElem_map, List.getElem_append, List.length_take, hlen, List.getElem_take, List.getElem_replicate]
  by_cases hij : i = j
  · subst hij
    rw [dif_pos (by omega), if_pos rfl, ← getD_eq (by omega) 0]
  · rw [if_neg hij]
    by_cases hlt : j < i
    · rw [dif_pos (by omega), dif_pos (by omega)]
    · rw [dif_neg (by omega), dif_neg (by omega)]

set_option maxRecDepth 100000 in
set_option maxHeartbeats 6400000 in
theorem classesCall {w : World} {v : Value} {ss : List (List (List Int))} {L : List Nat} (hK : KSS 8 w v ss) (hO : ClsOK ss) {F : Nat} (hL : clsGo ss (dd [] (allRd ss)) F (List.replicate ss.length 0) 0 = some L) :
    Calls Tryz.prog 49 #[v] w fun e w' => ∃ u, e = .returned u ∧ OI w' w.heap.size u L.length (natI L) ∧ Below w.heap.size w w' := by
  obtain ⟨hl90, hm90, hl0, hst⟩ := hO
  obtain ⟨sa, sc, sb, so, rfl, hsa, hsc, _⟩ := hK
  obtain rfl := hsa hl0
  obtain ⟨RI, hRI⟩ : ∃ RI, dd [] (allRd ss) = RI := ⟨_, rfl⟩
  rw [hRI] at hL
  have hRn : RI.Nodup := by rw [← hRI]; exact dd_nodup List.nodup_nil
  have hRl : RI.length ≤ 90 := by
    have h1 := dd_le (allRd ss) []
    have h2 : (allRd ss).length = movesN ss := by
      have h : (List.length ∘ List.map rdOf : List (List Int) → Nat) = List.length := by funext x; simp
      simp [allRd, movesN, List.length_flatten, List.sum, h]
    rw [hRI] at h1; simp at h1; omega
  have hmm := @run_makeMap Tryz.prog
  go_enter Tryz.func49, Tryz.ntmps49
  go_wp2_with (at_make; refine wpMakeI rfl _ _ rfl ss.length rfl rfl (by omega) (Nat.le_refl _) ?_; intro w1 ho hgr hb1)
  rw [World.size_alloc] at ho
  have hmx : Tryz.prog.follows .mixedOrders = true := by kernel_rfl
  have hIM0 : IM rdV w1 w.heap.size [] := (MX.made w).keep (hb1.block _ (by simp))
  have hbw0 : Below w.heap.size w w1 := ((Below.refl _ w).alloc (Nat.le_refl _) _).trans (hb1.mono (by simp))
  have hL0 : Hid (clsGo ss RI F (List.replicate ss.length 0) 0 = some L) := hL
  have hR0 : Hid (dd [] (allRd ss) = RI) := hRI
  have hW0 : Hid (∀ y ∈ RI, WfR y) := fun y hy => by
    rw [← hRI] at hy
    have := mem_dd_nil hy
    rw [allRd, List.mem_map] at this
    obtain ⟨m, hm, rfl⟩ := this
    obtain ⟨s, hs, hms⟩ := List.mem_flatten.1 hm
    exact ((hst s hs).2 m hms).1
  have ho0 : OI w1 (w.heap.size + 1) (.slice (some ⟨w.heap.size + 1, 0, none⟩) ss.length ss.length) ss.length (natI (List.replicate ss.length 0)) := by
    have : natI (List.replicate ss.length 0) = List.replicate ss.length 0 := by simp [natI]
    rw [this]; exact ho
  clear ho hgr hb1 hL hRI
  replace hst := Lib.hid hst
  replace hsc := Lib.hid hsc
  replace hRn := Lib.hid hRn
  have hR0s := hR0
  go_loopg [4, 5] F (fun f ov nv wr => ∃ (out : List Nat) (c : Nat) (R : List (List Int)), OI wr (w.heap.size + 1) ov ss.length (natI out) ∧ nv = .int .i64 (c : Int) ∧ IM rdV wr w.heap.size R ∧ Hid (R.Nodup) ∧ Hid (dd R (allRd ss) = RI) ∧
    Hid (clsGo ss RI f out c = some L) ∧ Hid (∀ j, out.getD j 0 < 100) ∧ Below w.heap.size w wr ∧ c ≤ 100)
  case atStart => exact ⟨_, 0, [], ho0, rfl, hIM0, List.nodup_nil, hR0, hL0, fun j => by simp [List.getElem?_replicate]; split <;> simp, hbw0, by omega⟩
  case round =>
    clear ho0 hIM0 hR0 hL0 hbw0
    obtain ⟨out, c, R, hout, rfl, hIM, hRd, hRr, hg, hlt100, hbr, hc100⟩ := hrel
    obtain ⟨f, rfl⟩ : ∃ f, gk = f + 1 := by
      cases gk with
      | zero => exact absurd hg (by intro h; simp [Hid, clsGo] at h)
      | succ f => exact ⟨f, rfl⟩
    obtain ⟨wo, hwo⟩ : ∃ wo, wo = wr := ⟨_, rfl⟩
    subst hwo
    obtain ⟨go, gc, rfl, hgo1, hgo2⟩ : ∃ go gc, u4 = .slice (some ⟨go, 0, none⟩) ss.length gc ∧ w.heap.size + 1 ≤ go ∧ go < wo.heap.size := by
      rcases hout.2 with ⟨_, h0⟩ | ⟨g, cap, cur, h1, h2, h3, _⟩
      · omega
      · exact ⟨g, cap, h1, h2, (Array.getElem?_eq_some_iff.1 h3).1⟩
    go_wp2_with (at_make; refine wpMakeI rfl _ _ rfl ss.length rfl rfl (by omega) (Nat.le_refl _) ?_; intro w2 ho2 hgr2 hb2)
    rw [World.size_alloc] at ho2
    have hbK : IM strV w2 wo.heap.size [] := (MX.made wo).keep (hb2.block _ (by simp))
    have hab : Below wo.heap.size wo (wo.alloc (.map #[] 0)) := (Below.refl _ wo).alloc (Nat.le_refl _) _
    have hb2' : Below wo.heap.size wo w2 := hab.trans (hb2.mono (by simp))
    have hIM2 : IM rdV w2 w.heap.size R := hIM.keep (hb2'.block _ hIM.lt)
    have hbr2 := bt hbr hb2' hbr.size
    have hout2 := hout.keep hb2'
    have hs2 : wo.heap.size + 2 ≤ w2.heap.size := by
      have h1 : wo.heap.size + 1 < w2.heap.size := World.block_lt_of_cell? w2 ⟨wo.heap.size + 1, 0, none⟩ (ho2.cell hl0)
      omega
    have hwo1 : w.heap.size < wo.heap.size := hIM.lt
    clear hab hb2 hb2' hgr2 hIM hout hbr
    have hk0 : Hid (([] : List (List UInt8)) = dd [] (keysL (ss.take 0) RI out)) := rfl
    have hR00 : Hid (dd R (allRd (ss.drop 0)) = RI) := by show _ = _; rw [List.drop_zero]; exact hRr
    have hn0 : Hid (List.replicate ss.length (0 : Int) = nxL ss RI out 0) := (nxL_zero _ _ _).symm
    clear hRr
    go_loopw [28] (fun iv wr => ∃ (i : Nat) (K : List (List UInt8)) (R : List (List Int)) (nx : List Int), iv = .int .i64 i ∧ i ≤ ss.length ∧ IM strV wr wo.heap.size K ∧ Hid (K = dd [] (keysL (ss.take i) RI out)) ∧ IM rdV wr w.heap.size R ∧ Hid R.Nodup ∧
      Hid (dd R (allRd (ss.drop i)) = RI) ∧ OI wr (wo.heap.size + 1) (.slice (some ⟨wo.heap.size + 1, 0, none⟩) ss.length ss.length) ss.length nx ∧ Hid (nx = nxL ss RI out i) ∧ Only (fun k => k = w.heap.size ∨ k = wo.heap.size ∨ k = wo.heap.size + 1) w2 wr) (fun iv _ => ss.length - (intOf iv).toNat)
    case atStart => exact ⟨0, [], R, _, rfl, by omega, hbK, hk0, hIM2, hRd, hR00, ho2, hn0, Only.refl _ _⟩
    case round =>
      clear hbK hk0 hIM2 hRd hR00 ho2 hn0
      obtain ⟨i, K, R, nx, rfl, hi, hIK, hKe, hIR, hRd, hRr, hnx, hnxe, hOn⟩ := hrel
      have hbq : Below w.heap.size w wr := hbr2.trans (hOn.below (by omega) (fun k hk => by rcases hk with rfl | rfl | rfl <;> omega))
      have hsq : wo.heap.size + 2 ≤ wr.heap.size := by have := hOn.size; omega
      by_cases hlt : i < ss.length
      · obtain ⟨ms, hms⟩ : ∃ ms, ss.getD i [] = ms := ⟨_, rfl⟩
        have hmem : ms ∈ ss := by rw [← hms, getD_eq hlt]; exact List.getElem_mem hlt
        obtain ⟨hms0, hmv⟩ := hst.out ms hmem
        obtain ⟨u, hcu, hu⟩ := hsc.out i hlt
        rw [hms] at hu
        have hcu2 := cell_kept hbq hcu
        obtain ⟨ma, mc, mb, mo, rfl, hma, hmc, hml⟩ := hu
        obtain rfl := hma hms0
        obtain ⟨wq, hwq⟩ : ∃ wq, wq = wr := ⟨_, rfl⟩
        subst hwq
        have hBI0 := BI.fresh wq (wq.heap.size + 1)
        obtain ⟨Wb, hWb⟩ : ∃ Wb, Wb = wq.alloc (.cells #[.pointer none, .slice none 0 0] 118) := ⟨_, rfl⟩
        rw [← hWb] at hBI0
        have hbb : Below wq.heap.size wq Wb := by rw [hWb]; exact (Below.refl _ wq).alloc (Nat.le_refl _) _
        have hsb : Wb.heap.size = wq.heap.size + 1 := by rw [hWb]; simp
        have hIRb := hIR.keep (hbb.block _ hIR.lt)
        have hRr0 : Hid (dd R ((ms.drop 0).map rdOf ++ allRd (ss.drop (i + 1))) = RI) := by show _ = _; rw [← allRd_step hlt hms]; exact hRr
        have ht0 : Hid (([] : List UInt8) = txs RI out (ms.take 0)) := rfl
        have hmvs : Hid (ms.length ≤ movesN ss) := by
          show _ ≤ _
          have h1 := mvPre_succ hlt; rw [hms] at h1
          have h2 := mvPre_le ss (i + 1)
          omega
        have hKs : Hid (∀ y ∈ K, y.length ≤ 1000000) := by
          intro y hy
          rw [hKe.out] at hy
          have := mem_dd_nil hy
          rw [keysL, List.mem_map] at this
          obtain ⟨s, hs, rfl⟩ := this
          have h1 := txs_len RI out s
          have h2 : s.length ≤ movesN ss := by
            obtain ⟨j, hj, rfl⟩ := List.mem_iff_getElem.1 (List.mem_of_mem_take hs)
            have h3 := mvPre_succ hj; rw [getD_eq hj] at h3
            have h4 := mvPre_le ss (j + 1)
            omega
          omega
        clear hcu hma
        have hIKh := Lib.hid hIK
        have hnxh := Lib.hid hnx
        replace hmc := Lib.hid hmc
        replace hmv := Lib.hid hmv
        replace hWb := Lib.hid hWb
        replace hms := Lib.hid hms
        go_wp2
        rw [← hWb.out]
        go_loopw [35] (fun jv wr => ∃ (j : Nat) (R : List (List Int)) (t : List UInt8), jv = .int .i64 j ∧ j ≤ ms.length ∧ IM rdV wr w.heap.size R ∧ Hid R.Nodup ∧ Hid (dd R ((ms.drop j).map rdOf ++ allRd (ss.drop (i + 1))) = RI) ∧ BI wr (wq.heap.size + 1) wq.heap.size t ∧ Hid (t = txs RI out (ms.take j)) ∧
          Only (fun k => k = w.heap.size ∨ k = wq.heap.size) Wb wr) (fun jv _ => ms.length - (intOf jv).toNat)
        case atStart => exact ⟨0, R, [], rfl, by omega, hIRb, hRd, hRr0, hBI0, ht0, Only.refl _ _⟩
        case round =>
          clear hIRb hRd hRr0 hBI0 ht0 hcu2 hIR hRr hIK hnx
          obtain ⟨j, R, t, rfl, hj, hIR, hRd, hRr, hBI, hte, hOb⟩ := hrel
          have hbWb : Below w.heap.size w Wb := bt hbq hbb hbq.size
          have hbi : Below w.heap.size w wr := hbWb.trans (hOb.below (by omega) (fun k hk => by rcases hk with rfl | rfl <;> omega))
          have hsi : wq.heap.size + 1 ≤ wr.heap.size := by have := hOb.size; omega
          have hRw : Hid (∀ y ∈ R, WfR y) := fun y hy => hW0.out y (by rw [← hRr.out]; exact dd_sub hy)
          by_cases hltj : j < ms.length
          · obtain ⟨hx8, hxc⟩ := hmc.out j hltj
            obtain ⟨x, hx⟩ : ∃ x, ms.getD j [] = x := ⟨_, rfl⟩
            have hxm : x ∈ ms := by rw [← hx, getD_eq hltj]; exact List.getElem_mem hltj
            obtain ⟨hwf, _, ht0, ht1⟩ := hmv.out x hxm
            have htx := Lib.hid (txs_step (R := RI) (out := out) hltj hx)
            have hdr := Lib.hid (drop_cons hltj ([] : List Int))
            rw [hx] at hx8 hxc hdr
            obtain ⟨y0, y1, y2, y3, y4, y5, y6, y7, rfl⟩ := eight hx8
            replace hwf : WfR [y0, y1, y2, y3, y4, y5, y6] := hwf
            replace ht0 : 0 ≤ y7 := ht0
            replace ht1 : y7 < (ss.length : Int) := ht1
            obtain ⟨q, rfl⟩ : ∃ q : Nat, y7 = (q : Int) := ⟨y7.toNat, by omega⟩
            have hq : q < ss.length := by omega
            obtain ⟨c0, c1, c2, c3, c4, c5, c6, c7⟩ := (hxc.keep hbi).all8
            obtain ⟨W3, hW3⟩ : ∃ W3, W3 = wr.alloc (.cells #[.int .i64 y0, .int .i64 y1, .int .i64 y2, .int .i64 y3, .int .i64 y4, .int .i64 y5, .int .i64 y6, .int .i64 (q : Int)] 84) := ⟨_, rfl⟩
            have hb3 : Below wr.heap.size wr W3 := by rw [hW3]; exact (Below.refl _ _).alloc (Nat.le_refl _) _
            have m3 : W3.heap[wr.heap.size]? = some (.cells #[.int .i64 y0, .int .i64 y1, .int .i64 y2, .int .i64 y3, .int .i64 y4, .int .i64 y5, .int .i64 y6, .int .i64 (q : Int)] 84) := by rw [hW3]; exact heap_alloc_new _ _
            have hIR3 := hIR.keep (hb3.block _ hIR.lt)
            have hBI3 := hBI.keepB hb3
            have hOb3 := hOb.thenBelow (hb3.mono hOb.size)
            have hs3 : wr.heap.size + 1 = W3.heap.size := by rw [hW3]; simp
            obtain ⟨p0, p1, p2, p3, p4, p5, p6, p7⟩ := box8 m3
            have hlook := IM.look keyX_round umRd zInt hIR3 hRd.out hRw.out hwf
            have hwrR : w.heap.size ≠ wr.heap.size := by omega
            have hqR : w.heap.size ≠ wq.heap.size := by omega
            replace hW3 := Lib.hid hW3
            clear hx8 hxc hx hxm hIR hBI hOb hbb
            rcases hlook with ⟨hin, hl1, hl2⟩ | ⟨hin, hl1, hl2⟩
            case' inl =>
              obtain ⟨o, hput, hIR4⟩ := IM.put keyX_round umRd hIR3 hRw.out hwf hin
              have hlen := fun ty => IM.len (ty := ty) umRd hIR3
              replace hput : (Instr.mapUpdate 114 (.map (some w.heap.size)) (.agg #[.int .i64 y0, .int .i64 y1, .int .i64 y2, .int .i64 y3, .int .i64 y4, .int .i64 y5, .int .i64 y6]) (.int .i64 (R.length : Nat))).run Tryz.prog W3 = .ok () (setBlock W3 w.heap.size o) := hput
              replace hl2 : (Instr.lookup 114 (.map (some w.heap.size)) (.agg #[.int .i64 y0, .int .i64 y1, .int .i64 y2, .int .i64 y3, .int .i64 y4, .int .i64 y5, .int .i64 y6]) true).run Tryz.prog W3 = .ok (.tuple #[.int .i64 0, .bool false]) W3 := hl2
              rw [hW3.out] at hl2 hput hlen
              clear hl1
              go_wp2
              rw [← hW3.out]
              obtain ⟨W4, hW4⟩ : ∃ W4, W4 = setBlock W3 w.heap.size o := ⟨_, rfl⟩
              rw [← hW4] at hIR4 ⊢
              have hin4 : Hid ([y0, y1, y2, y3, y4, y5, y6] ∈ R ++ [[y0, y1, y2, y3, y4, y5, y6]]) := by show _ ∈ _; simp
              have hRd4 : Hid (R ++ [[y0, y1, y2, y3, y4, y5, y6]]).Nodup := by
                show List.Nodup _
                rw [List.nodup_append]
                refine ⟨hRd.out, by simp, ?_⟩
                intro a ha b hb e
                rw [List.mem_singleton] at hb
                exact hin (by rw [← hb, ← e]; exact ha)
              have hRr4 : Hid (dd (R ++ [[y0, y1, y2, y3, y4, y5, y6]]) ((ms.drop (j + 1)).map rdOf ++ allRd (ss.drop (i + 1))) = RI) := by
                show _ = _
                rw [← hRr.out, hdr.out, List.map_cons, List.cons_append]
                exact (dd_new hin).symm
              have hBI4 : BI W4 (wq.heap.size + 1) wq.heap.size t := hBI3.keep (D := fun k => k = w.heap.size) (by rw [hW4]; exact (Only.refl (fun k => k = w.heap.size) W3).setBlk (b := w.heap.size) rfl o) (by omega) (fun k hk => by omega)
              have hOb4 : Only (fun k => k = w.heap.size ∨ k = wq.heap.size) Wb W4 := by rw [hW4]; exact hOb3.setBlk (.inl rfl) o
              have m4 : W4.heap[wr.heap.size]? = some (.cells #[.int .i64 y0, .int .i64 y1, .int .i64 y2, .int .i64 y3, .int .i64 y4, .int .i64 y5, .int .i64 y6, .int .i64 (q : Int)] 84) := by rw [hW4]; exact (setBlock_keep o (by omega)).trans m3
              have hs4 : W3.heap.size = W4.heap.size := by rw [hW4]; simp [setBlock]
              obtain ⟨R4, hR4⟩ : ∃ R4, R4 = R ++ [[y0, y1, y2, y3, y4, y5, y6]] := ⟨_, rfl⟩
              rw [← hR4] at hIR4 hin4 hRd4 hRr4
              clear hW4 hR4 hput hlen hin
            case' inr =>
              replace hl2 : (Instr.lookup 114 (.map (some w.heap.size)) (.agg #[.int .i64 y0, .int .i64 y1, .int .i64 y2, .int .i64 y3, .int .i64 y4, .int .i64 y5, .int .i64 y6]) true).run Tryz.prog W3 = .ok (.tuple #[.int .i64 (ixOf R [y0, y1, y2, y3, y4, y5, y6] : Nat), .bool true]) W3 := hl2
              rw [hW3.out] at hl2
              clear hl1
              go_wp2
              rw [← hW3.out]
              obtain ⟨W4, hW4⟩ : ∃ W4, W4 = W3 := ⟨_, rfl⟩
              rw [← hW4]
              obtain ⟨R4, hR4⟩ : ∃ R4, R4 = R := ⟨_, rfl⟩
              have hIR4 : IM rdV W4 w.heap.size R4 := by rw [hW4, hR4]; exact hIR3
              have hin4 : Hid ([y0, y1, y2, y3, y4, y5, y6] ∈ R4) := by rw [hR4]; exact hin
              have hRd4 : Hid R4.Nodup := by rw [hR4]; exact hRd
              have hRr4 : Hid (dd R4 ((ms.drop (j + 1)).map rdOf ++ allRd (ss.drop (i + 1))) = RI) := by
                show _ = _
                rw [hR4, ← hRr.out, hdr.out, List.map_cons, List.cons_append]
                exact (dd_old hin).symm
              have hBI4 : BI W4 (wq.heap.size + 1) wq.heap.size t := by rw [hW4]; exact hBI3
              have hOb4 : Only (fun k => k = w.heap.size ∨ k = wq.heap.size) Wb W4 := by rw [hW4]; exact hOb3
              have m4 : W4.heap[wr.heap.size]? = some (.cells #[.int .i64 y0, .int .i64 y1, .int .i64 y2, .int .i64 y3, .int .i64 y4, .int .i64 y5, .int .i64 y6, .int .i64 (q : Int)] 84) := by rw [hW4]; exact m3
              have hs4 : W3.heap.size = W4.heap.size := by rw [hW4]
              clear hW4 hR4 hin
            all_goals (
              clear hIR3 hBI3 hOb3 hl2 p0 p1 p2 p3 p4 p5 p6 p7 m3 hb3 c0 c1 c2 c3 c4 c5 c6 c7 hW3 hRr hdr
              obtain ⟨p0, p1, p2, p3, p4, p5, p6, p7⟩ := box8 m4
              have hRw4 : ∀ y ∈ R4, WfR y := fun y hy => hW0.out y (by rw [← hRr4.out]; exact dd_sub hy)
              have hlk : ∀ k, (Instr.lookup 114 (.map (some w.heap.size)) (.agg #[.int .i64 y0, .int .i64 y1, .int .i64 y2, .int .i64 y3, .int .i64 y4, .int .i64 y5, .int .i64 y6]) false).run Tryz.prog (W4.drewN k) = .ok (.int .i64 (ixOf R4 [y0, y1, y2, y3, y4, y5, y6] : Nat)) (W4.drewN k) := by
                intro k
                rcases IM.look keyX_round umRd zInt (hIR4.keep (w' := W4.drewN k) rfl) hRd4.out hRw4 hwf with ⟨h, _⟩ | ⟨_, h, _⟩
                · exact absurd hin4.out h
                · exact h
              have hq1e : ixOf R4 [y0, y1, y2, y3, y4, y5, y6] = ixOf RI [y0, y1, y2, y3, y4, y5, y6] := by rw [← hRr4.out]; exact (dd_idx hin4.out).symm
              have hq1b : ixOf R4 [y0, y1, y2, y3, y4, y5, y6] < 100 := by
                have : [y0, y1, y2, y3, y4, y5, y6] ∈ RI := by rw [← hRr4.out]; exact dd_sub hin4.out
                have := ixOf_lt this
                rw [hq1e]
                omega
              obtain ⟨q1, hq1⟩ : ∃ q1, ixOf R4 [y0, y1, y2, y3, y4, y5, y6] = q1 := ⟨_, rfl⟩
              rw [hq1] at hlk hq1e hq1b
              have hq2b := hlt100.out q
              have hcq : W4.cell? ⟨go, q, none⟩ = some (.int .i64 ((out.getD q 0 : Nat) : Int)) := by
                have h1 := hout2.cell hq
                rw [natI_getD] at h1
                have h2 := hOn.cell (p := ⟨go, q, none⟩) (by simp only; omega) h1
                have h3 : Wb.cell? ⟨go, q, none⟩ = _ := cell_kept (by rw [hWb.out]; exact (Below.refl _ wq).alloc (Nat.le_refl _) _) h2
                exact hOb4.cell (p := ⟨go, q, none⟩) (by simp only; omega) h3
              have htq : Hid (txs RI out (ms.take (j + 1)) = t ++ (itoaL q1 ++ [58] ++ itoaL (out.getD q 0) ++ [59])) := by
                show _ = _
                rw [htx.out, ← hte.out]
                congr 1
                show itoaL (ixOf RI [y0, y1, y2, y3, y4, y5, y6]) ++ [58] ++ itoaL (out.getD ((q : Int)).toNat 0) ++ [59] = _
                rw [← hq1e, Int.toNat_natCast]
              obtain ⟨q2, hq2⟩ : ∃ q2, out.getD q 0 = q2 := ⟨_, rfl⟩
              rw [hq2] at hcq hq2b htq
              have HI1 := fun W => itoa99 q1 W hq1b
              have HI2 := fun W => itoa99 q2 W hq2b
              have htq2 : Hid (txs RI out (ms.take (j + 1)) = t ++ (itoaB q1 ++ { data := #[58] } ++ itoaB q2 ++ { data := #[59] }).data.toList) := by
                show _ = _
                rw [htq.out]; simp [itoaB]
              have hz1 : (itoaB q1).size ≤ 2 := itoaL_len q1
              have hz2 : (itoaB q2).size ≤ 2 := itoaL_len q2
              have htl : Hid (t.length ≤ 540) := by show _ ≤ _; rw [hte.out]; have h1 := txs_len RI out (ms.take j); rw [List.length_take] at h1; have := hmvs.out; omega
              obtain ⟨B1, hB1⟩ : ∃ B1, itoaB q1 = B1 := ⟨_, rfl⟩
              obtain ⟨B2, hB2⟩ : ∃ B2, itoaB q2 = B2 := ⟨_, rfl⟩
              rw [hB1] at htq2 hz1
              rw [hB2] at htq2 hz2
              simp only [hB1] at HI1
              simp only [hB2] at HI2
              replace HI1 := Lib.hid HI1
              replace HI2 := Lib.hid HI2
              have hn1 : ¬ (9223372036854775807 < B1.size + 1) := by omega
              have hn2 : ¬ (9223372036854775807 < B1.size + 1 + B2.size) := by omega
              have hn3 : ¬ (9223372036854775807 < B1.size + 1 + B2.size + 1) := by omega
              clear hB1 hB2 htq
              clear hq1 hq2 hq1e hRw4 hin4 htx hte
              refine wp_region_qtail 14 hmx (by kernel_rfl) (by kernel_rfl) ?_ ?_
              · rintro ⟨a, wx, h⟩
                obtain ⟨_, h, _⟩ := h
                cases h
              · intro ops'
                simp only [List.take_succ_cons, List.take_zero, List.drop_succ_cons, List.drop_zero]
                repeat (quiet_step ((go_at_call 82; first | exact Calls.quiet_of (HI1.out _) | exact Calls.quiet_of (HI2.out _))))
                refine wpQuiet_nil ?_
                intro k
                go_wp2_with fail
                have hBI5 : BI (W4.drewN k) (wq.heap.size + 1) wq.heap.size t := hBI4.keepB (below_drewN (Below.refl _ _) k)
                have hsW4 : wq.heap.size + 1 ≤ W4.heap.size := by omega
                refine (hBI5.write hsW4 _ (by simp only [ByteArray.size_append]; have := htl.out; show t.length + (B1.size + 1 + B2.size + 1) ≤ _; omega)).mono ?_
                rintro e W5 ⟨rfl, hBI6, hO6⟩
                have hIR6 := hIR4.keep (w' := W5) (hO6.same _ hIR4.lt (by rintro (h | h) <;> omega))
                have hOb6 : Only (fun k => k = w.heap.size ∨ k = wq.heap.size) Wb W5 := (hOb4.drewN k).trans hO6 (fun x hx => by
                  rcases hx with h | h
                  · exact .inl (.inr h)
                  · exact .inr (by omega))
                go_wp2
                go_roundw
                case rel => exact ⟨j + 1, R4, _, by go_num, hltj, hIR6, hRd4, hRr4, hBI6, htq2.out.symm, hOb6⟩
                case measure => simp [intOf]; omega)
          · obtain rfl : j = ms.length := by omega
            have htx : t = txs RI out ms := by rw [hte.out, List.take_length]
            have hRr1 : Hid (dd R (allRd (ss.drop (i + 1))) = RI) := by show _ = _; rw [← hRr.out, List.drop_length]; rfl
            have htl : t.length ≤ 1000000 := by
              rw [htx]
              have h1 := txs_len RI out ms; have := hmvs.out
              omega
            have htne : t ≠ [] := by rw [htx]; exact txs_ne hms0
            have hks := keys_step (R := RI) (out := out) hlt hms.out
            have hnxs := nxL_step (R := RI) (out := out) hlt hms.out
            rw [← htx] at hks hnxs
            have hkin : Hid (t ∈ K → dd [] (keysL (ss.take (i + 1)) RI out) = K) := fun h => by
              rw [hks, dd_snoc_in (by rw [← hKe.out]; exact h)]; exact hKe.out.symm
            have hkout : Hid (t ∉ K → dd [] (keysL (ss.take (i + 1)) RI out) = K ++ [t]) := fun h => by
              rw [hks, dd_snoc_out (by rw [← hKe.out]; exact h), ← hKe.out]
            replace hks := Lib.hid hks
            replace hnxs := Lib.hid hnxs
            have HS := hBI.string htne
            replace htx := Lib.hid htx
            have hKn : Hid K.Nodup := by show List.Nodup _; rw [hKe.out]; exact dd_nodup List.nodup_nil
            have hbW : Below wq.heap.size wq Wb := by rw [hWb.out]; exact (Below.refl _ wq).alloc (Nat.le_refl _) _
            have hOq : Only (fun k => k = w.heap.size) wq wr := ⟨hOb.os.trans hbW.os, hOb.tape.trans hbW.tape, hOb.output.trans hbW.output, by omega, fun k hk hd => (hOb.same k (by omega) (by rintro (h | h); exact hd h; omega)).trans (hbW.block k hk)⟩
            have hIKr := hIKh.out.keep (w' := wr) (hOq.same _ hIKh.out.lt (by omega))
            have hnxr : OI wr (wo.heap.size + 1) (.slice (some ⟨wo.heap.size + 1, 0, none⟩) ss.length ss.length) ss.length nx := by
              refine ⟨hnxh.out.1, ?_⟩
              rcases hnxh.out.2 with h' | ⟨g, cap, cur, h1, h2, h3, h4⟩
              · exact .inl h'
              · refine .inr ⟨g, cap, cur, h1, h2, (hOq.same g (Array.getElem?_eq_some_iff.1 h3).1 (by omega)).trans h3, h4⟩
            have hOn2 := hOn.trans (hOq.mono (D' := fun k => k = w.heap.size ∨ k = wo.heap.size ∨ k = wo.heap.size + 1) (fun k h => .inl h)) (Gr.refl _ _)
            clear hOb hbW hOq hIKh hnxh hBI hRr hte hbi hRw hmc hmv
            go_wp2_with fail
            refine HS.mono ?_
            rintro e W6 ⟨rfl, hO6⟩
            have hs6 : wq.heap.size + 1 ≤ W6.heap.size := by have := hO6.size; omega
            have hIR6 := hIR.keep (w' := W6) (hO6.same _ hIR.lt (by omega))
            have hIK6 := hIKr.keep (w' := W6) (hO6.same _ hIKr.lt (by omega))
            have hnx6 : OI W6 (wo.heap.size + 1) (.slice (some ⟨wo.heap.size + 1, 0, none⟩) ss.length ss.length) ss.length nx := by
              refine ⟨hnxr.1, ?_⟩
              rcases hnxr.2 with h' | ⟨g, cap, cur, h1, h2, h3, h4⟩
              · exact .inl h'
              · have hg : g = wo.heap.size + 1 := by injection h1 with h1; injection h1 with h1; injection h1 with h1; exact h1.symm
                refine .inr ⟨g, cap, cur, h1, h2, (hO6.same g (Array.getElem?_eq_some_iff.1 h3).1 (by omega)).trans h3, h4⟩
            have hOn6 : Only (fun k => k = w.heap.size ∨ k = wo.heap.size ∨ k = wo.heap.size + 1) w2 W6 := hOn2.trans hO6 (fun x hx => .inr (by have := hOn.size; omega))
            clear hIR hIKr hnxr hOn2 hO6 HS
            obtain ⟨bK, hbK⟩ : ∃ bK, bK = wo.heap.size := ⟨_, rfl⟩
            rcases IM.look keyX_str umStr zInt hIK6 hKn.out hKs.out htl with ⟨hin, hl1, hl2⟩ | ⟨hin, hl1, hl2⟩
            case' inl =>
              obtain ⟨o, hput, hIK7⟩ := IM.put keyX_str umStr hIK6 hKs.out htl hin
              have hlen := fun ty => IM.len (ty := ty) umStr hIK6
              have hkd : Hid (dd [] (keysL (ss.take (i + 1)) RI out) = K ++ [t]) := hkout.out hin
              have hKn7 : (K ++ [t]).Nodup := by
                rw [List.nodup_append]
                refine ⟨hKn.out, by simp, ?_⟩
                intro a ha b hb e
                rw [List.mem_singleton] at hb
                exact hin (by rw [← hb, ← e]; exact ha)
              have hKs7 : ∀ y ∈ K ++ [t], y.length ≤ 1000000 := by
                intro y hy
                rcases List.mem_append.1 hy with h | h
                · exact hKs.out y h
                · rw [List.mem_singleton] at h; rw [h]; exact htl
              have hl3 : (Instr.lookup 115 (.map (some wo.heap.size)) (.string { data := t.toArray }) false).run Tryz.prog (setBlock W6 wo.heap.size o) = .ok (.int .i64 (ixOf (K ++ [t]) t : Nat)) (setBlock W6 wo.heap.size o) := by
                rcases IM.look keyX_str umStr zInt hIK7 hKn7 hKs7 htl with ⟨h, _⟩ | ⟨_, h, _⟩
                · exact absurd (by simp) h
                · exact h
              replace hput : (Instr.mapUpdate 115 (.map (some wo.heap.size)) (.string { data := t.toArray }) (.int .i64 (K.length : Nat))).run Tryz.prog W6 = .ok () (setBlock W6 wo.heap.size o) := hput
              replace hl2 : (Instr.lookup 115 (.map (some wo.heap.size)) (.string { data := t.toArray }) true).run Tryz.prog W6 = .ok (.tuple #[.int .i64 0, .bool false]) W6 := hl2
              obtain ⟨W7, hW7⟩ : ∃ W7, W7 = setBlock W6 wo.heap.size o := ⟨_, rfl⟩
              rw [← hW7] at hput hIK7 hl3
              have hsb7 : ∀ k, k ≠ wo.heap.size → W7.heap[k]? = W6.heap[k]? := fun k hk => by rw [hW7]; exact setBlock_keep o hk
              have hIR7 := hIR6.keep (w' := W7) (hsb7 _ (by omega))
              have hOn7 : Only (fun k => k = w.heap.size ∨ k = wo.heap.size ∨ k = wo.heap.size + 1) w2 W7 := by rw [hW7]; exact hOn6.setBlk (.inr (.inl rfl)) o
              have hnx7 : OI W7 (wo.heap.size + 1) (.slice (some ⟨wo.heap.size + 1, 0, none⟩) ss.length ss.length) ss.length nx := by
                refine ⟨hnx6.1, ?_⟩
                rcases hnx6.2 with h' | ⟨g, cap, cur, h1, h2, h3, h4⟩
                · exact .inl h'
                · exact .inr ⟨g, cap, cur, h1, h2, (hsb7 g (by omega)).trans h3, h4⟩
              obtain ⟨K7, hK7⟩ : ∃ K7, K7 = K ++ [t] := ⟨_, rfl⟩
              rw [← hK7] at hkd hl3 hIK7
              clear hl1 hW7 hK7 hKn7 hKs7 hsb7 hin
            case' inr =>
              have hkd : Hid (dd [] (keysL (ss.take (i + 1)) RI out) = K) := hkin.out hin
              obtain ⟨W7, hW7⟩ : ∃ W7, W7 = W6 := ⟨_, rfl⟩
              obtain ⟨K7, hK7⟩ : ∃ K7, K7 = K := ⟨_, rfl⟩
              have hIK7 := hIK6
              have hIR7 := hIR6
              have hOn7 := hOn6
              have hnx7 := hnx6
              have hl3 : (Instr.lookup 115 (.map (some wo.heap.size)) (.string { data := t.toArray }) false).run Tryz.prog W6 = .ok (.int .i64 (ixOf K t : Nat)) W6 := hl1
              replace hl2 : (Instr.lookup 115 (.map (some wo.heap.size)) (.string { data := t.toArray }) true).run Tryz.prog W6 = .ok (.tuple #[.int .i64 (ixOf K t : Nat), .bool true]) W6 := hl2
              rw [← hW7] at hIK7 hIR7 hOn7 hnx7 hl3 hl2 ⊢
              rw [← hK7] at hIK7 hl3 hl2 hkd
              clear hl1 hW7 hK7 hin
            all_goals (
              clear hIK6 hIR6 hOn6 hnx6 hbK bK
              have hcn := hnx7.cell hlt
              have hfn := hnx7.free i
              obtain ⟨hst7, hgr7⟩ := hnx7.store i ((ixOf K7 t : Nat) : Int)
              have hnxe7 : Hid (nx.set i ((ixOf K7 t : Nat) : Int) = nxL ss RI out (i + 1)) := by show _ = _; rw [hnxs.out, hkd.out, hnxe.out]
              obtain ⟨q, hq⟩ : ∃ q, ixOf K7 t = q := ⟨_, rfl⟩
              obtain ⟨z, hz⟩ : ∃ z, nx.getD i 0 = z := ⟨_, rfl⟩
              rw [hq] at hl3 hst7 hnxe7 hgr7
              try rw [hq] at hl2
              rw [hz] at hcn
              clear hq hz
              have hIK8 := hIK7.keep (hgr7.block _ hIK7.lt (by simp))
              have hIR8 := hIR7.keep (hgr7.block _ hIR7.lt (by simp; omega))
              have hOn8 := hOn7.setCell (p := ⟨wo.heap.size + 1, i, none⟩) (.inr (.inr rfl)) (.int .i64 (q : Int))
              have hkd8 : Hid (K7 = dd [] (keysL (ss.take (i + 1)) RI out)) := hkd.out.symm
              clear hkd hnxs hkin hkout hks hgr7 hnx7 hIK7 hIR7 hOn7
              go_wp2
              go_roundw
              case rel => exact ⟨i + 1, K7, R, _, by go_num, hlt, hIK8, hkd8, hIR8, hRd, hRr1, hst7, hnxe7, hOn8⟩
              case measure => simp [intOf]; omega)
      · obtain rfl : i = ss.length := by omega
        have hKa : K = dd [] (keysL ss RI out) := by rw [hKe.out, keys_all]
        have hnxa : nx = natI (lbl (keysL ss RI out)) := by rw [hnxe.out, nxL_all]
        have hll : (lbl (keysL ss RI out)).length = ss.length := by rw [lbl_length, keysL, List.length_map]
        have hR1 : Hid (dd R (allRd ss) = RI) := by
          show _ = _
          have h1 : R = RI := by rw [← hRr.out, List.drop_length]; rfl
          rw [h1, ← hR0s.out]
          exact dd_idem (fun x hx => dd_mem hx)
        have hK90 : K.length ≤ 90 := by
          rw [hKa]
          have h1 := dd_le (keysL ss RI out) []
          rw [keysL, List.length_map] at h1
          simp only [List.length_nil] at h1
          rw [keysL]; omega
        have hlen := fun ty => IM.len (ty := ty) umStr hIK
        obtain ⟨N, hN⟩ : ∃ N, K.length = N := ⟨_, rfl⟩
        rw [hN] at hlen hK90
        by_cases hc : N = c
        · have hc' : ((N : Int) == (c : Int)) = true := by simp [hc]
          have hLe : L = lbl (keysL ss RI out) := by
            have h1 := hg.out
            rw [clsGo, if_pos (by rw [← hKa, hN, hc])] at h1
            exact (Option.some.inj h1).symm
          have hfin : OI wr w.heap.size (.slice (some ⟨wo.heap.size + 1, 0, none⟩) ss.length ss.length) L.length (natI L) := by
            rw [hLe, hll, ← hnxa]; exact hnx.base (by omega)
          clear hKa hnxa hll hR1 hN hg hc hnx hnxe hKe hRr
          replace hfin := Lib.hid hfin
          go_wp2
          go_ret
          exact ⟨_, rfl, hfin.out, hbq⟩
        · have hc' : ((N : Int) == (c : Int)) = false := by simp; omega
          have hg2 : Hid (clsGo ss RI f (lbl (keysL ss RI out)) N = some L) := by
            show _ = _
            have h1 := hg.out
            rwa [clsGo, if_neg (by rw [← hKa, hN]; exact hc), ← hKa, hN] at h1
          have hx1 : OI wr (w.heap.size + 1) (.slice (some ⟨wo.heap.size + 1, 0, none⟩) ss.length ss.length) ss.length (natI (lbl (keysL ss RI out))) := by
            rw [← hnxa]; exact hnx.base (by omega)
          have h100 : Hid (∀ j, (lbl (keysL ss RI out)).getD j 0 < 100) := by
            intro j
            by_cases hj : j < ss.length
            · have h1 := lbl_lt (ks := keysL ss RI out) (i := j) (by rw [keysL, List.length_map]; exact hj)
              rw [← hKa, hN] at h1
              omega
            · rw [List.getD_eq_getElem?_getD, List.getElem?_eq_none (by omega)]; simp
          clear hKa hnxa hll hN hg hc hnx hnxe hKe hRr
          go_wp2
          go_roundg f
          case measure => omega
          case rel => exact ⟨_, N, R, hx1, rfl, hIR, hRd, hR1, hg2, h100, hbq, by omega⟩
end Go.Proofs.YtfihpofdoffclaaGreatDoor
