/- Texts of this claim, put together: EG EK EL1. -/
import Derived.Test.YtiiiegflobihjaaGreatKChainszc
import Derived.Test.YtiiiegflobihjaaGreatKChainsl
import Derived.BigQuiet
import Derived.Deep.RegionHeld3
import Derived.Test.YtiiiegflobihjaaGreatKChainst
import Derived.Test.YtiiiegflobihjaaGreatKChainsx
import Derived.Test.YtiiiegflobihjaaGreatKChainsr
import Derived.Deep.DeepCutAuto
import Derived.Test.YtiiiegflobihjaaGreatKChainss

/- The reference: leads behind the rounds of the first adversary. -/
namespace Go.Proofs.YtiiiegflobihjaaGreat
open Go.RowKit

theorem addF_len (xs : List Nat) : (addF xs).length ≤ xs.length := by
  have h : ∀ (n : Nat), n ≤ xs.length → (addF (xs.take n)).length ≤ n := fun n => by
    induction n with
    | zero => intro _; simp [addF]
    | succ n ih =>
      intro hn
      rw [List.take_succ_eq_append_getElem (by omega), addF_snoc]
      have := addN_len xs[n] (addF (xs.take n))
      have := ih (by omega)
      omega
  have := h xs.length (Nat.le_refl _)
  rwa [List.take_length] at this
/-- The states that are joined so far. -/
def ldL (_bz : List (List (List Int))) (f : Int) (r : List Int) (ms : List (List Int)) : List Nat := addF (thTo f ms r)
theorem ldL_snoc {bz : List (List (List Int))} {f : Int} {r : List Int} {ms : List (List Int)} {a : List Int} : ldL bz f r (ms ++ [a]) = if unM f a = r then addN (mvTo a) (ldL bz f r ms) else ldL bz f r ms := by
  rw [ldL, thTo_snoc]
  by_cases h : unM f a = r
  · rw [if_pos h, if_pos h, addF_snoc]; rfl
  · rw [if_neg h, if_neg h, List.append_nil]; rfl
/-- What stands in the loops of leads. -/
def LdI (W1 W2 : World) (k f : Int) (l : List Nat) (wr : World) : Prop := ∃ v, wr.heap[W1.heap.size]? = some (.cells #[.int .i64 k, .int .i64 0, .int .i64 f, v] 82) ∧ OI wr W2.heap.size v l.length (natI l) ∧ Below W1.heap.size W1 wr ∧ W2.heap.size ≤ wr.heap.size

set_option maxRecDepth 100000 in
set_option maxHeartbeats 6400000 in
theorem refLeadsB {w : World} {u v xv : Value} {m n k : Int} {az bz : List (List (List Int))} (hA : AdvV w u m az) (hB : AdvV w v n bz) (sB : AdS bz) (hk : 0 ≤ k ∧ k ≤ 1000) {x : Nd} (h0 : x.2.2 ≠ []) (hx0 : x.1 = k) (hf : 0 ≤ x.2.1 ∧ x.2.1 ≤ 31) (hl : x.2.2.length ≤ 8) (hs : ∀ s ∈ x.2.2, s < bz.length) (hxv : OI w 0 xv x.2.2.length (natI x.2.2))
    (r0 r1 r2 r3 r4 r5 r6 : Int) (hr : [r0, r1, r2, r3, r4, r5, r6] ∈ rfRs az bz k x) :
    Calls Tryz.prog 45 #[u, v, .int .i64 k, sgV x xv, .agg #[.int .i64 r0, .int .i64 r1, .int .i64 r2, .int .i64 r3, .int .i64 r4, .int .i64 r5, .int .i64 r6]] w (LdOut w (rfTo az bz k x [r0, r1, r2, r3, r4, r5, r6])) := by
  have hmx : Tryz.prog.follows .mixedOrders = true := by kernel_rfl
  obtain ⟨x0, f, set⟩ := x
  simp only at h0 hx0 hf hl hs hxv
  subst hx0
  rw [rfRs, if_neg (by simp)] at hr
  have hr : [r0, r1, r2, r3, r4, r5, r6] ∈ thRs f (thMs bz set) := hr
  have hall := thMs_all sB
  have hlen := thMs_len sB
  have h256 : ∀ s ∈ thTo f (thMs bz set) [r0, r1, r2, r3, r4, r5, r6], s < 256 := fun s hs => by have := thTo_lt sB s hs; have := sB.len; omega
  have hres : rfTo az bz x0 (x0, f, set) [r0, r1, r2, r3, r4, r5, r6] = (x0, f, ldL bz f [r0, r1, r2, r3, r4, r5, r6] (thMs bz set)) := by
    rw [rfTo, if_neg (by simp only; omega), if_neg (by simp only; omega)]
    show (x0, f, thTx (thTo f (thMs bz set) _)) = _
    rw [ldL, addF_text h256]
  have hne : ldL bz f [r0, r1, r2, r3, r4, r5, r6] (thMs bz set) ≠ [] := fun h => by
    obtain ⟨s, hsm⟩ := List.exists_mem_of_ne_nil _ (thTo_pos hr)
    have := (addF_mem _ s).2 hsm
    rw [ldL] at h
    rw [h] at this; cases this
  rw [hres]
  obtain ⟨aa, ac, hu⟩ := advShape' hA
  subst hu
  obtain ⟨sv, rfl, sa, sc, sb, so, rfl, hsa, hsc, hs0⟩ := hB
  have hbp := sB.ok.pos
  obtain rfl := hsa (by omega)
  have hb8 := sB.len
  obtain ⟨va, vc, hv⟩ := hxv.shape
  subst hv
  obtain ⟨q0, cap, hve, _⟩ := hxv.form (List.length_pos_iff.2 h0)
  obtain ⟨rfl, rfl⟩ : va = some ⟨q0, 0, none⟩ ∧ vc = cap := by injection hve with h1 h2 h3; exact ⟨h1, h3⟩
  have hV : sgV (x0, f, set) (.slice (some ⟨q0, 0, none⟩) set.length vc) = .agg #[.int .i64 x0, .int .i64 0, .int .i64 f, .slice (some ⟨q0, 0, none⟩) set.length vc] := by
    show Value.agg #[.int .i64 x0, .int .i64 (sgS (x0, f, set)), .int .i64 (sgF (x0, f, set)), _] = _
    rw [sgS, if_neg h0, sgF, if_neg h0]
  rw [hV]
  obtain ⟨N, hN⟩ : ∃ N, bz.length = N := ⟨_, rfl⟩
  rw [hN] at hs0 hbp hb8 ⊢
  obtain ⟨W1, hW1⟩ : ∃ W1, W1 = ((((w.alloc (.cells #[.int .i64 m, .slice aa az.length ac] 24)).alloc (.cells #[.int .i64 n, .slice (some ⟨sb, so, none⟩) N sc] 24)).alloc (.cells #[.int .i64 x0, .int .i64 0, .int .i64 f, .slice (some ⟨q0, 0, none⟩) set.length vc] 82)).alloc (.cells #[.int .i64 r0, .int .i64 r1, .int .i64 r2, .int .i64 r3, .int .i64 r4, .int .i64 r5, .int .i64 r6] 51)).alloc (.cells #[.int .i64 0, .int .i64 0, .int .i64 0, .slice none 0 0] 82) := ⟨_, rfl⟩
  obtain ⟨hb1, kA, kB, kX, kR, kO, hz1⟩ := ldBox hW1
  obtain ⟨W2, hW2⟩ : ∃ W2, W2 = W1.alloc (.cells #[.int .i64 x0, .int .i64 0, .int .i64 f, .slice none 0 0] 82) := ⟨_, rfl⟩
  have hb2 : Below W1.heap.size W1 W2 := by rw [hW2]; exact (Below.refl _ _).alloc (Nat.le_refl _) _
  have kT : W2.heap[W1.heap.size]? = some (.cells #[.int .i64 x0, .int .i64 0, .int .i64 f, .slice none 0 0] 82) := by rw [hW2]; exact heap_alloc_new _ _
  have hz2 : W2.heap.size = W1.heap.size + 1 := by rw [hW2, World.size_alloc]
  have hcs := Lib.hid (fun W (hb : Below W1.heap.size W1 W) => show ((W.cell? ⟨w.heap.size + 1, 1, none⟩ = some (.slice (some ⟨sb, so, none⟩) N sc) ∧ W.cell? ⟨w.heap.size + 1 + 1, 2, none⟩ = some (.int .i64 f) ∧ W.cell? ⟨w.heap.size + 1 + 1, 3, none⟩ = some (.slice (some ⟨q0, 0, none⟩) set.length vc)) ∧
      (∀ i, i < set.length → W.cell? ⟨q0, i, none⟩ = some (.int .i64 ((set.getD i 0 : Nat) : Int))) ∧ CKK 8 W sb so bz ∧ (W.cell? ⟨w.heap.size + 1 + 1 + 1, 0, none⟩ = some (.int .i64 r0) ∧ W.cell? ⟨w.heap.size + 1 + 1 + 1, 1, none⟩ = some (.int .i64 r1) ∧ W.cell? ⟨w.heap.size + 1 + 1 + 1, 2, none⟩ = some (.int .i64 r2) ∧ W.cell? ⟨w.heap.size + 1 + 1 + 1, 3, none⟩ = some (.int .i64 r3) ∧ W.cell? ⟨w.heap.size + 1 + 1 + 1, 4, none⟩ = some (.int .i64 r4) ∧ W.cell? ⟨w.heap.size + 1 + 1 + 1, 5, none⟩ = some (.int .i64 r5) ∧ W.cell? ⟨w.heap.size + 1 + 1 + 1, 6, none⟩ = some (.int .i64 r6)) ∧
      W.heap[w.heap.size + 1 + 1 + 1 + 1]? = some (.cells #[.int .i64 0, .int .i64 0, .int .i64 0, .slice none 0 0] 82)) from by
    have hbw := bt hb1 hb hb1.size
    refine ⟨⟨box_cell (j := 1) (kept hb kB) rfl, box_cell (j := 2) (kept hb kX) rfl, box_cell (j := 3) (kept hb kX) rfl⟩, fun i hi => ?_, hsc.keep hbw, ⟨box_cell (j := 0) (kept hb kR) rfl, box_cell (j := 1) (kept hb kR) rfl, box_cell (j := 2) (kept hb kR) rfl, box_cell (j := 3) (kept hb kR) rfl, box_cell (j := 4) (kept hb kR) rfl, box_cell (j := 5) (kept hb kR) rfl, box_cell (j := 6) (kept hb kR) rfl⟩, kept hb kO⟩
    rw [(hxv.keep hbw).cell hi]
    simp [natI, List.getD_eq_getElem?_getD, List.getElem?_eq_getElem hi])
  have p0 : W1.cell? ⟨w.heap.size + 1 + 1, 0, none⟩ = some (.int .i64 x0) := box_cell (j := 0) kX rfl
  have p2 : W1.cell? ⟨w.heap.size + 1 + 1, 2, none⟩ = some (.int .i64 f) := box_cell (j := 2) kX rfl
  have hI0 : LdI W1 W2 x0 f (ldL bz f [r0, r1, r2, r3, r4, r5, r6] (thMs bz (set.take 0))) W2 := ⟨_, kT, OI.nil _ _, hb2, Nat.le_refl _⟩
  have hll := Lib.hid (fun i j s => show ((ldL bz f [r0, r1, r2, r3, r4, r5, r6] (thMs bz (set.take i) ++ (bz.getD s []).take j)).length ≤ 1000 ∧ ∀ y ∈ ldL bz f [r0, r1, r2, r3, r4, r5, r6] (thMs bz (set.take i) ++ (bz.getD s []).take j), y < 100000) from by
    have h1 := hlen (set.take i)
    have h2 := (sB.all s).1
    have h3 := thTo_len f (thMs bz (set.take i) ++ (bz.getD s []).take j) [r0, r1, r2, r3, r4, r5, r6]
    have h4 := addF_len (thTo f (thMs bz (set.take i) ++ (bz.getD s []).take j) [r0, r1, r2, r3, r4, r5, r6])
    simp only [List.length_append, List.length_take] at h1 h3
    refine ⟨by rw [ldL]; omega, fun y hy => ?_⟩
    rw [ldL, addF_mem] at hy
    obtain ⟨a, ha, rfl⟩ := List.mem_map.1 hy
    have ha := (List.mem_filter.1 ha).1
    have : mvTo a < bz.length := by
      rcases List.mem_append.1 ha with ha | ha
      · exact (hall _ a ha).2.2.2.1
      · exact ((sB.all s).2 a (List.mem_of_mem_take ha)).2.2.2.1
    omega)
  have hwk : IntKind.i64.wrap (x0 - 1) = x0 - 1 := IntWalk.i64_in _ (by omega)
  have hlt1 : x0 - 1 ≤ x0 := by omega
  have hlt2 : x0 ≤ x0 := by omega
  replace hN := Lib.hid hN
  replace hall := Lib.hid hall
  replace hlen := Lib.hid hlen
  replace hs := Lib.hid hs
  replace hxv := Lib.hid hxv
  replace hz1 := Lib.hid hz1
  replace hz2 := Lib.hid hz2
  replace hr := Lib.hid hr
  replace hne := Lib.hid hne
  replace h256 := Lib.hid h256
  rw [hW1] at p0 p2
  obtain ⟨RL, hRL⟩ : ∃ L, [r0, r1, r2, r3, r4, r5, r6] = L := ⟨_, rfl⟩
  rw [hRL] at hll hI0 hne hres ⊢
  replace hRL := Lib.hid hRL
  have hM0 := Lib.hid hsc
  clear hsc kA kB kX kR kO kT hV hve hsa hres hb2
  go_enter Tryz.func45, Tryz.ntmps45
  go_wp2_with fail
  rw [← hW1, ← hW2]
  replace hW1 := Lib.hid hW1
  replace hW2 := Lib.hid hW2
  clear p0 p2
  go_loopw [12] (fun iv wr => ∃ i : Nat, iv = .int .i64 i ∧ i ≤ set.length ∧ LdI W1 W2 x0 f (ldL bz f RL (thMs bz (set.take i))) wr) (fun iv _ => set.length - (intOf iv).toNat)
  case atStart => exact ⟨0, rfl, by omega, hI0⟩
  case round =>
    clear hI0
    obtain ⟨i, rfl, hi, hI⟩ := hrel
    obtain ⟨wo, hwo⟩ : ∃ wo, wo = wr := ⟨_, rfl⟩
    subst hwo
    have hbo := hI.choose_spec.2.2.1
    obtain ⟨⟨b1, s2, s3⟩, hset, hcc, ⟨r0c, r1c, r2c, r3c, r4c, r5c, r6c⟩, _⟩ := hcs.out wo hbo
    by_cases hlt : i < set.length
    · have hii : (i : Int) < (set.length : Int) := by omega
      have c0 := hset i hlt
      have hstp := Lib.hid (thMs_snocE (bz := bz) hlt rfl)
      have hsN : set.getD i 0 < N := by rw [← hN.out, getD_eq hlt]; exact hs.out _ (List.getElem_mem hlt)
      have hall2 := Lib.hid ((sB.all (set.getD i 0)).2)
      have hlli := Lib.hid (fun j => hll.out i j (set.getD i 0))
      obtain ⟨s, hse⟩ : ∃ s, set.getD i 0 = s := ⟨_, rfl⟩
      rw [hse] at c0 hstp hsN hall2 hlli
      replace hse := Lib.hid hse
      have hbwo := bt hb1 hbo hb1.size
      obtain ⟨us, hus0, hks⟩ := hM0.out s (by rw [hN.out]; exact hsN)
      have hus := cell_kept hbwo hus0
      have hsi : (s : Int) < (N : Int) := by omega
      obtain ⟨x, hx⟩ : ∃ x, bz.getD s [] = x := ⟨_, rfl⟩
      rw [hx] at hks hstp hall2 hlli
      replace hx := Lib.hid hx
      obtain ⟨xa, xc, xb, xo, rfl, hxa, hxc, _⟩ := hks
      obtain ⟨P0, hP0⟩ : ∃ P0, thMs bz (set.take i) = P0 := ⟨_, rfl⟩
      rw [hP0] at hI hstp hlli
      replace hP0 := Lib.hid hP0
      have hxck := Lib.hid (fun W (hb : Below w.heap.size w W) => hxc.keep hb)
      have hIq := Lib.hid (fun nd => show LdI W1 W2 x0 f (ldL bz f RL (P0 ++ x.take 0)) (wo.drewN nd) from by
        rw [List.take_zero, List.append_nil]
        obtain ⟨v, h1, h2, h3, h4⟩ := hI
        exact ⟨v, kept (Qt.mk' wo nd).below h1, h2.keep (Qt.mk' wo nd).below, h3.trans ((Qt.mk' wo nd).belowB _), h4⟩)
      clear hset hcc hxc hI
      go_wp2
      go_quiet (fail)
      go_wp2_with fail
      clear b1 s2 s3 c0 r0c r1c r2c r3c r4c r5c r6c hus hus0
      go_loopw [14] (fun jv wr => ∃ j : Nat, jv = .int .i64 j ∧ j ≤ x.length ∧ LdI W1 W2 x0 f (ldL bz f RL (P0 ++ x.take j)) wr) (fun jv _ => x.length - (intOf jv).toNat)
      case atStart => exact ⟨0, rfl, by omega, hIq.out _⟩
      case round =>
        obtain ⟨j, rfl, hj, hI⟩ := hrel
        obtain ⟨v, kT, hO, hbr, hsz⟩ := hI
        have hbwr := bt hb1 hbr hb1.size
        obtain ⟨_, _, _, ⟨g0, g1, g2, g3, g4, g5, g6⟩, _⟩ := hcs.out wr hbr
        by_cases hlj : j < x.length
        · have hji : (j : Int) < (x.length : Int) := by omega
          obtain rfl := hxa (by omega)
          obtain ⟨h8, hmc⟩ := hxck.out wr hbwr j hlj
          have hmm := hall2.out _ (by rw [getD_eq hlj]; exact List.getElem_mem hlj : x.getD j [] ∈ x)
          have hsn := take_snoc hlj ([] : List Int)
          obtain ⟨mv, hmv⟩ : ∃ m, x.getD j [] = m := ⟨_, rfl⟩
          rw [hmv] at h8 hmc hmm hsn
          obtain ⟨m0, m1, m2, m3, m4, m5, m6, m7, rfl⟩ := eight h8
          have h6 := hmm.2.2.2.2 m6 (by simp [rdOf])
          obtain ⟨_, _, ⟨t7b, t7c⟩, _⟩ := hmm
          have t7b : 0 ≤ m7 := t7b
          have t7c : m7 < (bz.length : Int) := t7c
          obtain ⟨t, rfl⟩ : ∃ t : Nat, m7 = (t : Int) := ⟨m7.toNat, by omega⟩
          have ht8 : t < 100000 := by have := sB.len; omega
          obtain ⟨hlr1, hlr2⟩ := hlli.out j
          have hst : Hid (ldL bz f RL (P0 ++ x.take (j + 1)) = if [m0, m1, m2, m3, m4, m5, orI m6 f] = RL then addN t (ldL bz f RL (P0 ++ x.take j)) else ldL bz f RL (P0 ++ x.take j)) := by
            show _ = _
            rw [hsn, ← List.append_assoc, ldL_snoc]; rfl
          obtain ⟨L, hL⟩ : ∃ L, ldL bz f RL (P0 ++ x.take j) = L := ⟨_, rfl⟩
          rw [hL] at hO hst hlr1 hlr2
          replace hL := Lib.hid hL
          replace hmv := Lib.hid hmv
          obtain ⟨c0, c1, c2, c3, c4, c5, c6, c7⟩ := hmc.all8
          obtain ⟨⟨_, s2, _⟩, _⟩ := hcs.out wr hbr
          have HJ := Lib.hid (fun W => joinedC (w := W) (r0 := m0) (r1 := m1) (r2 := m2) (r3 := m3) (r4 := m4) (r5 := m5) h6 hf)
          obtain ⟨o, ho⟩ : ∃ o, orI m6 f = o := ⟨_, rfl⟩
          rw [ho] at HJ hst
          replace ho := Lib.hid ho
          have hfc := Lib.hid (fun wq (hC : Below wr.heap.size wr wq) => And.intro (And.intro (cell_kept hC c0) (And.intro (cell_kept hC c1) (And.intro (cell_kept hC c2) (And.intro (cell_kept hC c3) (And.intro (cell_kept hC c4) (And.intro (cell_kept hC c5) (And.intro (cell_kept hC c6) (And.intro (cell_kept hC c7) (cell_kept hC s2))))))))) (And.intro (cell_kept hC g0) (And.intro (cell_kept hC g1) (And.intro (cell_kept hC g2) (And.intro (cell_kept hC g3) (And.intro (cell_kept hC g4) (And.intro (cell_kept hC g5) (cell_kept hC g6))))))))
          obtain ⟨E, hE⟩ : ∃ E, eqL [m0, m1, m2, m3, m4, m5, o] [r0, r1, r2, r3, r4, r5, r6] = E := ⟨_, rfl⟩
          have hEi : [m0, m1, m2, m3, m4, m5, o] = RL ↔ E = true := by rw [← hRL.out, ← hE]; exact eqL_true.symm
          have hOh := Lib.hid (fun W (hb : Below wr.heap.size wr W) => And.intro (kept hb kT) (And.intro (hO.keep hb) (And.intro (hbr.trans (hb.mono hbr.size)) (Nat.le_trans hsz hb.size))))
          replace hEi := Lib.hid hEi
          clear h8 hmc hsn c0 c1 c2 c3 c4 c5 c6 c7 s2 hO kT g0 g1 g2 g3 g4 g5 g6
          go_wp2_with fail
          refine wp_region_bw hmx (by kernel_rfl) ?_
          repeat (refine WQ.step (fun K hK => ?_)
                  go_simp
                  first
                    | (refine hK _ ?_; clear hK K)
                    | (apply Exists.intro
                       refine ⟨fun wq hC => ?_, hK _ ?_⟩
                       · (first | with_reducible rfl | (obtain ⟨⟨c0, c1, c2, c3, c4, c5, c6, c7, s2⟩, g0, g1, g2, g3, g4, g5, g6⟩ := hfc.out wq hC; go_simp; first | done | with_reducible rfl | with_reducible exact ⟨rfl, rfl⟩))
                       clear hK K))
          (refine WQ.step (fun K hK => ?_)
           go_simp
           first
             | (refine hK _ ?_; clear hK K)
             | (apply Exists.intro
                refine ⟨fun wq hC => ?_, hK _ ?_⟩
                · (refine (HJ.out wq).mono ?_; rintro e w' ⟨rfl, hb⟩; exact ⟨rfl, bt hC hb hC.size⟩)
                clear hK K))
          repeat (refine WQ.step (fun K hK => ?_)
                  go_simp
                  first
                    | (refine hK _ ?_; clear hK K)
                    | (apply Exists.intro
                       refine ⟨fun wq hC => ?_, hK _ ?_⟩
                       · (first | with_reducible rfl | (obtain ⟨⟨c0, c1, c2, c3, c4, c5, c6, c7, s2⟩, g0, g1, g2, g3, g4, g5, g6⟩ := hfc.out wq hC; go_simp; first | done | with_reducible rfl | with_reducible exact ⟨rfl, rfl⟩))
                       clear hK K))
          refine WQ.nil ?_
          intro w4 hb4
          obtain ⟨kT4, hO4, hbr4, hsz4⟩ := hOh.out w4 hb4
          cases E
          · have hst2 : Hid (ldL bz f RL (P0 ++ x.take (j + 1)) = L) := by show _ = _; rw [hst.out, if_neg (fun h => by have := hEi.out.1 h; cases this)]
            have hI4 : LdI W1 W2 x0 f L w4 := ⟨v, kT4, hO4, hbr4, hsz4⟩
            clear hst hEi
            go_wp2
            go_roundw
            case rel => exact ⟨j + 1, by go_num, hlj, by rw [hst2.out]; exact hI4⟩
            case measure => simp [intOf]; omega
          · have hst2 : Hid (ldL bz f RL (P0 ++ x.take (j + 1)) = addN t L) := by show _ = _; rw [hst.out, if_pos (hEi.out.2 rfl)]
            have HA := Lib.hid (fun W (hb : Below w4.heap.size w4 W) => refAdd (hO4.keep hb) hlr1 (Nat.le_trans hsz4 hb.size) hlr2 t ht8)
            have hkk := Lib.hid (fun W (hb : Below w4.heap.size w4 W) => And.intro (kept hb kT4) (cell_kept hb (hfc.out w4 hb4).1.2.2.2.2.2.2.2.1))
            obtain ⟨va', vc', hvs⟩ := hO4.shape
            subst hvs
            clear hst hEi hO4
            go_upto_region 14 with fail
            refine regLd14 (by have h := (hkk.out w4 (Below.refl _ _)).1; rw [hz1.out] at h; exact h) (hkk.out w4 (Below.refl _ _)).2 hji HA ?_
            intro W5 hb5 v5 ho5 W6 hW6
            have hk5 := (hkk.out W5 hb5).1
            have kT6 : W6.heap[W1.heap.size]? = some (.cells #[.int .i64 x0, .int .i64 0, .int .i64 f, v5] 82) := by rw [hW6, hz1.out]; rw [hz1.out] at hk5; exact heap_setCell_same _ _ 3 _ _ v5 hk5
            have hX6 : KeepX 82 W5 W6 := by rw [hW6]; rw [hz1.out] at hk5; exact KeepX.setCell (p := ⟨w.heap.size + 1 + 1 + 1 + 1 + 1, 3, none⟩) hk5 v5
            have hbr5 := hbr4.trans (hb5.mono hbr4.size)
            have hbr6 : Below W1.heap.size W1 W6 := by rw [hW6]; exact Below.setCell (p := ⟨w.heap.size + 1 + 1 + 1 + 1 + 1, 3, none⟩) hbr5 (by show W1.heap.size ≤ _; rw [hz1.out]; exact Nat.le_refl _) v5
            have hsz6 : W2.heap.size ≤ W6.heap.size := by rw [hW6]; exact Nat.le_trans hsz4 (by simpa using hb5.size)
            have hI6 : LdI W1 W2 x0 f (addN t L) W6 := ⟨v5, kT6, ho5.other (by decide) hX6, hbr6, hsz6⟩
            replace hW6 := Lib.hid hW6
            go_wp2
            go_roundw
            case rel => exact ⟨j + 1, by go_num, hlj, by rw [hst2.out]; exact hI6⟩
            case measure => simp [intOf]; omega
        · obtain rfl : j = x.length := by omega
          have hge : ¬ ((x.length : Int) < (x.length : Int)) := by omega
          have hI4 : LdI W1 W2 x0 f (ldL bz f RL (thMs bz (set.take (i + 1)))) wr := by rw [hstp.out, ← List.take_length (l := x)]; exact ⟨v, kT, hO, hbr, hsz⟩
          have hlt' := hlt
          clear hO kT g0 g1 g2 g3 g4 g5 g6
          go_wp2
          go_roundw
          case rel => exact ⟨i + 1, by go_num, hlt', hI4⟩
          case measure => simp [intOf]; omega
    · obtain rfl : i = set.length := by omega
      have hge : ¬ ((set.length : Int) < (set.length : Int)) := by omega
      rw [List.take_length] at hI
      obtain ⟨v, kT, hO, hbr, hsz⟩ := hI
      have hz2' := hz2.out
      have kR := (hcs.out wo hbr).2.2.2.2
      have kT' := kT
      rw [hz1.out] at kT'
      obtain ⟨va', vc', hvs⟩ := hO.shape
      subst hvs
      obtain ⟨t0, t1, t2, t3⟩ := box4 kT'
      obtain ⟨y0, y1, y2, y3⟩ := box4 kR
      have yf := row_free kR
      obtain ⟨LL, hLL⟩ : ∃ LL, ldL bz f RL (thMs bz set) = LL := ⟨_, rfl⟩
      rw [hLL] at hO hne t3 ⊢
      have kN8 := boxSet4 (u0 := .int .i64 x0) (u1 := .int .i64 0) (u2 := .int .i64 f) (u3 := .slice va' LL.length vc') kR
      have hX8 : KeepX 82 wo ((((wo.setCell ⟨w.heap.size + 1 + 1 + 1 + 1, 0, none⟩ (.int .i64 x0)).setCell ⟨w.heap.size + 1 + 1 + 1 + 1, 1, none⟩ (.int .i64 0)).setCell ⟨w.heap.size + 1 + 1 + 1 + 1, 2, none⟩ (.int .i64 f)).setCell ⟨w.heap.size + 1 + 1 + 1 + 1, 3, none⟩ (.slice va' LL.length vc')) := fun k cs t hk ht => keep4 (fun e => by subst e; rw [kR] at hk; injection hk with hk; injection hk with _ hk; exact ht hk.symm) _ _ _ _
      have hbw8 := bt hb1 hbr hb1.size
      have hb8' := below4 hbw8 (show w.heap.size ≤ w.heap.size + 1 + 1 + 1 + 1 by omega) (.int .i64 x0) (.int .i64 0) (.int .i64 f) (.slice va' LL.length vc')
      have hO8 := hO.other (by decide) hX8
      obtain ⟨W8, hW8⟩ : ∃ W8, W8 = ((((wo.setCell ⟨w.heap.size + 1 + 1 + 1 + 1, 0, none⟩ (.int .i64 x0)).setCell ⟨w.heap.size + 1 + 1 + 1 + 1, 1, none⟩ (.int .i64 0)).setCell ⟨w.heap.size + 1 + 1 + 1 + 1, 2, none⟩ (.int .i64 f)).setCell ⟨w.heap.size + 1 + 1 + 1 + 1, 3, none⟩ (.slice va' LL.length vc')) := ⟨_, rfl⟩
      rw [← hW8] at kN8 hb8' hO8
      obtain ⟨z0, z1, z2, z3⟩ := box4 kN8
      have hfin : sgV (x0, f, LL) (.slice va' LL.length vc') = .agg #[.int .i64 x0, .int .i64 0, .int .i64 f, .slice va' LL.length vc'] := by
        show Value.agg #[.int .i64 x0, .int .i64 (sgS (x0, f, LL)), .int .i64 (sgF (x0, f, LL)), _] = _
        rw [sgS, if_neg hne.out, sgF, if_neg hne.out]
      have hOf := Lib.hid (hO8.base (Nat.zero_le _))
      replace hfin := Lib.hid hfin
      replace hLL := Lib.hid hLL
      clear hO hO8 kT kR kN8 hset hcc r0c r1c r2c r3c r4c r5c r6c
      go_wp2
      rw [← hW8]
      refine bodyPost_ret (v := .agg #[.int .i64 x0, .int .i64 0, .int .i64 f, .slice va' LL.length vc']) (by simp [results, Tryz.results45, go_sem, z0, z1, z2, z3]) rfl ?_
      show LdOut w (x0, f, ldL bz f RL (thMs bz set)) _ _
      rw [hLL.out]
      exact ⟨_, by rw [hfin.out], hOf.out, hb8'⟩
end Go.Proofs.YtiiiegflobihjaaGreat

/- always: an adversary with one state. -/
namespace Go.Proofs.YtiiiegflobihjaaGreat
open Go.RowKit

/-- A row of rows that lie in blocks. -/
theorem kssOf {w : World} {b : Nat} {us : Array Value} {t : TypeId} {xs : List (List (List Int))} (h : w.heap[b]? = some (.cells us t)) (hl : us.size = xs.length) (hn : xs.length ≤ 1000) (hk : ∀ j, j < xs.length → KS 8 w (us.getD j (.slice none 0 0)) (xs.getD j [])) : KSS 8 w (.slice (some ⟨b, 0, none⟩) xs.length xs.length) xs := by
  refine ⟨_, _, b, 0, rfl, fun _ => rfl, fun j hj => ⟨_, ?_, hk j hj⟩, by omega⟩
  rw [Nat.zero_add]
  refine box_cell h ?_
  rw [Array.getD_eq_getD_getElem?, Array.getElem?_eq_getElem (by omega)]; rfl
theorem advOf {w : World} {b : Nat} {us : Array Value} {t : TypeId} {xs : List (List (List Int))} {n : Int} (h : w.heap[b]? = some (.cells us t)) (hl : us.size = xs.length) (hn : xs.length ≤ 1000) (hk : ∀ j, j < xs.length → KS 8 w (us.getD j (.slice none 0 0)) (xs.getD j [])) : AdvV w (.agg #[.int .i64 n, .slice (some ⟨b, 0, none⟩) xs.length xs.length]) n xs := ⟨_, rfl, kssOf h hl hn hk⟩

set_option maxRecDepth 100000 in
set_option maxHeartbeats 800000 in
theorem alwaysCall {w : World} {r0 r1 r2 r3 r4 r5 r6 : Int} :
    Calls Tryz.prog 28 #[.agg #[.int .i64 r0, .int .i64 r1, .int .i64 r2, .int .i64 r3, .int .i64 r4, .int .i64 r5, .int .i64 r6]] w fun e w' => ∃ a c, e = .returned (.agg #[.int .i64 2, .slice a 1 c]) ∧ OwAdv w' (.agg #[.int .i64 2, .slice a 1 c]) 2 (alw1 [r0, r1, r2, r3, r4, r5, r6]) ∧ Below w.heap.size w w' := by
  obtain ⟨W1, hW1⟩ : ∃ W1, W1 = w.alloc (.cells #[.int .i64 r0, .int .i64 r1, .int .i64 r2, .int .i64 r3, .int .i64 r4, .int .i64 r5, .int .i64 r6] 51) := ⟨_, rfl⟩
  have k1 : W1.heap[w.heap.size]? = some (.cells #[.int .i64 r0, .int .i64 r1, .int .i64 r2, .int .i64 r3, .int .i64 r4, .int .i64 r5, .int .i64 r6] 51) := by rw [hW1]; exact heap_alloc_new _ _
  obtain ⟨_, d0, d1, d2, d3, d4, d5, d6⟩ := row7 k1
  go_enter Tryz.func28, Tryz.ntmps28
  go_wp2_with fail
  clear d0 d1 d2 d3 d4 d5 d6 k1 hW1
  generalize hW : World.alloc _ _ = WF
  have kR : WF.heap[w.heap.size + 1]? = some (.cells #[.int .i64 2, .slice (some ⟨w.heap.size + 1 + 1 + 1, 0, none⟩) 1 1] 24) := by rw [← hW]; repeat (first | (refine ha_new ?_; first | rfl | (simp only [World.size_alloc]; done)) | (refine ha_old ?_ ?_; · (simp only [World.size_alloc] <;> omega)))
  have kM : WF.heap[w.heap.size + 1 + 1]? = some (.cells #[.int .i64 r0, .int .i64 r1, .int .i64 r2, .int .i64 r3, .int .i64 r4, .int .i64 r5, .int .i64 r6, .int .i64 0] 58) := by rw [← hW]; repeat (first | (refine ha_new ?_; first | rfl | (simp only [World.size_alloc]; done)) | (refine ha_old ?_ ?_; · (simp only [World.size_alloc] <;> omega)))
  have kS : WF.heap[w.heap.size + 1 + 1 + 1]? = some (.cells #[.slice (some ⟨w.heap.size + 1 + 1, 0, none⟩) 1 1] 59) := by rw [← hW]; repeat (first | (refine ha_new ?_; first | rfl | (simp only [World.size_alloc]; done)) | (refine ha_old ?_ ?_; · (simp only [World.size_alloc] <;> omega)))
  have hbf : Below w.heap.size w WF := by rw [← hW]; repeat (first | exact Below.refl _ _ | (refine Below.alloc ?_ ?_ _; rotate_left; · (first | exact Nat.le_refl _ | (simp only [World.size_alloc] <;> omega))))
  clear hW
  obtain ⟨y0, y1⟩ := box2 kR
  have hM : OwX 58 8 EI WF 0 (.slice (some ⟨w.heap.size + 1 + 1, 0, none⟩) 1 1) 1 [[r0, r1, r2, r3, r4, r5, r6, 0]] := by
    refine ⟨[.int .i64 r0, .int .i64 r1, .int .i64 r2, .int .i64 r3, .int .i64 r4, .int .i64 r5, .int .i64 r6, .int .i64 0], ⟨rfl, .inr ⟨_, 1, _, rfl, Nat.zero_le _, kM, Nat.le_refl _, by unfold maxLen; omega, rfl, rfl⟩⟩, rfl, ?_, ?_⟩
    · intro u hu; simp only [List.mem_cons, List.not_mem_nil, or_false] at hu; rcases hu with rfl | rfl | rfl | rfl | rfl | rfl | rfl | rfl <;> rfl
    · intro j x hj
      cases j with
      | zero => simp only [List.getElem?_cons_zero, Option.some.injEq] at hj; subst hj; rfl
      | succ j => simp at hj
  have hSt : OwX 59 1 ESt WF 0 (.slice (some ⟨w.heap.size + 1 + 1 + 1, 0, none⟩) 1 1) 1 (alw1 [r0, r1, r2, r3, r4, r5, r6]) := by
    refine ⟨[.slice (some ⟨w.heap.size + 1 + 1, 0, none⟩) 1 1], ⟨rfl, .inr ⟨_, 1, _, rfl, Nat.zero_le _, kS, Nat.le_refl _, by unfold maxLen; omega, rfl, rfl⟩⟩, rfl, ?_, ?_⟩
    · intro u hu; simp only [List.mem_cons, List.not_mem_nil, or_false] at hu; rcases hu with rfl; rfl
    · intro j x hj
      cases j with
      | zero => simp only [alw1, List.getElem?_cons_zero, Option.some.injEq] at hj; subst hj; exact ⟨_, rfl, hM⟩
      | succ j => simp [alw1] at hj
  refine bodyPost_ret (v := .agg #[.int .i64 2, .slice (some ⟨w.heap.size + 1 + 1 + 1, 0, none⟩) 1 1]) (by simp [results, Tryz.results28, go_sem, y0, y1]) rfl ?_
  exact ⟨_, _, rfl, ⟨_, rfl, hSt, by simp [alw1], fun x hx => by obtain rfl := List.mem_singleton.1 hx; simp⟩, hbf⟩
end Go.Proofs.YtiiiegflobihjaaGreat

/- awake: region 3 (two calls, two boxes) by states. -/
namespace Go.Proofs.YtiiiegflobihjaaGreat
open Go.RowKit

theorem gA {W X : World} (h : Below W.heap.size W X) (o : Obj) : Below W.heap.size W (X.alloc o) := h.alloc h.size o
theorem gS {W X : World} {b : Nat} (h : Below W.heap.size W X) (hb : W.heap.size ≤ b) (j : Nat) (u : Value) : Below W.heap.size W (X.setCell ⟨b, j, none⟩ u) := h.setCell (p := ⟨b, j, none⟩) hb u
theorem gT {W X Y : World} (hb : Below X.heap.size X Y) (h : Below W.heap.size W X) : Below W.heap.size W Y := bt h hb h.size
theorem hS0 {w : World} {b : Nat} {x y u : Value} {t : TypeId} (h : w.heap[b]? = some (.cells #[x, y] t)) : (w.setCell ⟨b, 0, none⟩ u).heap[b]? = some (.cells #[u, y] t) := heap_setCell_same _ b 0 _ t u h
theorem hSn {w : World} {b k j : Nat} {o : Obj} {u : Value} (h : w.heap[k]? = some o) (hne : k ≠ b) : (w.setCell ⟨b, j, none⟩ u).heap[k]? = some o := (Below.heap_setCell w ⟨b, j, none⟩ u k hne).trans h
theorem hAn {w : World} {o o' : Obj} {k : Nat} (h : w.heap[k]? = some o) : (w.alloc o').heap[k]? = some o := (Below.heap_alloc w o' k (Array.getElem?_eq_some_iff.1 h).1).trans h
/-- A box of an adversary. -/
def BxZ (W : World) (b : Nat) : Prop := W.heap[b]? = some (.cells #[.int .i64 0, .slice none 0 0] 24)
theorem BxZ.f {W : World} {b : Nat} (h : BxZ W b) : W.cell? ⟨b, 0, none⟩ = some (.int .i64 0) ∧ W.cell? ⟨b, 1, none⟩ = some (.slice none 0 0) ∧ (∀ j, W.frozen? ⟨b, j, none⟩ = false) := ⟨box_cell h rfl, box_cell h rfl, row_free h⟩
def opsAw3 : Array Oper := #[{ dst := some 20, op := Op.load 51 (Operand.tmp 2), type := 51, pos := "law.go:25", after := #[], guard := none }, { dst := some 21, op := Op.call { callee := Callee.value (Operand.func 28), args := #[Operand.tmp 20], argTypes := #[51] }, type := 24, pos := "law.go:25", after := #[{ on := 0, ground := Ground.data }], guard := none }, { dst := some 22, op := Op.load 51 (Operand.tmp 1), type := 51, pos := "law.go:25", after := #[], guard := none }, { dst := some 23, op := Op.call { callee := Callee.value (Operand.func 28), args := #[Operand.tmp 22], argTypes := #[51] }, type := 24, pos := "law.go:25", after := #[{ on := 2, ground := Ground.data }, { on := 1, ground := Ground.chain }], guard := none }, { dst := some 3, op := Op.alloc 24, type := 0, pos := "law.go:25", after := #[], guard := none }, { dst := some 4, op := Op.alloc 24, type := 0, pos := "law.go:25", after := #[], guard := none }, { dst := none, op := Op.store 24 (Operand.tmp 3) (Operand.tmp 21), type := 0, pos := "law.go:25", after := #[{ on := 4, ground := Ground.data }, { on := 1, ground := Ground.data }, { on := 3, ground := Ground.chain }, { on := 0, ground := Ground.phase }, { on := 1, ground := Ground.phase }, { on := 2, ground := Ground.textOnly Departure.lateStores }, { on := 3, ground := Ground.textOnly Departure.lateStoresUnsure }, { on := 4, ground := Ground.phase }, { on := 5, ground := Ground.phase }], guard := none }, { dst := none, op := Op.store 24 (Operand.tmp 4) (Operand.tmp 23), type := 0, pos := "law.go:25", after := #[{ on := 5, ground := Ground.data }, { on := 3, ground := Ground.data }, { on := 6, ground := Ground.chain }, { on := 0, ground := Ground.phase }, { on := 1, ground := Ground.phase }, { on := 2, ground := Ground.phase }, { on := 3, ground := Ground.phase }, { on := 4, ground := Ground.phase }, { on := 5, ground := Ground.phase }, { on := 6, ground := Ground.phase }], guard := none }]
set_option maxRecDepth 100000 in
set_option maxHeartbeats 6400000 in
theorem regAw3 {w : World} {x0 x3 x4 x5 x6 x7 x8 x9 x10 x11 x12 x13 x14 x15 x16 x17 x18 x19 x20 x21 x22 x23 x24 x25 x26 x27 x28 x29 x30 x31 x32 x33 x34 x35 x36 x37 x38 x39 x40 x41 x42 x43 x44 x45 x46 x47 x48 x49 x50 x51 x52 x53 x54 x55 x56 x57 x58 x59 x60 x61 x62 x63 x64 x65 x66 x67 x68 x69 x70 x71 x72 x73 x74 x75 x76 x77 x78 x79 x80 x81 x82 x83 x84 x85 x86 x87 x88 x89 x90 x91 x92 x93 x94 x95 x96 x97 x98 x99 x100 x101 x102 x103 x104 x105 x106 x107 x108 x109 x110 x111 : Value} {Q : Exit → Act → World → Prop} {p1 p2 : Nat}
    (hR : Hid (∀ W, Below w.heap.size w W → (True ∧ W.cell? ⟨p1, 0, none⟩ = some (.int .i64 2) ∧ W.cell? ⟨p1, 1, none⟩ = some (.int .i64 1) ∧ W.cell? ⟨p1, 2, none⟩ = some (.int .i64 2) ∧ W.cell? ⟨p1, 3, none⟩ = some (.int .i64 0) ∧ W.cell? ⟨p1, 4, none⟩ = some (.int .i64 0) ∧ W.cell? ⟨p1, 5, none⟩ = some (.int .i64 0) ∧ W.cell? ⟨p1, 6, none⟩ = some (.int .i64 0)) ∧ (True ∧ W.cell? ⟨p2, 0, none⟩ = some (.int .i64 2) ∧ W.cell? ⟨p2, 1, none⟩ = some (.int .i64 3) ∧ W.cell? ⟨p2, 2, none⟩ = some (.int .i64 3) ∧ W.cell? ⟨p2, 3, none⟩ = some (.int .i64 0) ∧ W.cell? ⟨p2, 4, none⟩ = some (.int .i64 0) ∧ W.cell? ⟨p2, 5, none⟩ = some (.int .i64 0) ∧ W.cell? ⟨p2, 6, none⟩ = some (.int .i64 0))))
    (h : ∀ (W : World) (_hb : Below w.heap.size w W) (a5 : Option Addr) (c5 : Nat) (_hA : OwAdv W (.agg #[.int .i64 2, .slice a5 1 c5]) 2 (alw1 rdC)) (a6 : Option Addr) (c6 : Nat) (_hB : OwAdv W (.agg #[.int .i64 2, .slice a6 1 c6]) 2 (alw1 rdS)) (b3 : Nat) (_h3 : w.heap.size ≤ b3) (_k3 : W.heap[b3]? = some (.cells #[.int .i64 2, .slice a5 1 c5] 24)) (b4 : Nat) (_h4 : w.heap.size ≤ b4) (_k4 : W.heap[b4]? = some (.cells #[.int .i64 2, .slice a6 1 c6] 24)) (_hne : b3 ≠ b4), Q .normal ⟨#[x0, .pointer (some ⟨p1, 0, none⟩), .pointer (some ⟨p2, 0, none⟩), .pointer (some ⟨b3, 0, none⟩), .pointer (some ⟨b4, 0, none⟩), x5, x6, x7, x8, x9, x10, x11, x12, x13, x14, x15, x16, x17, x18, x19, .agg #[.int .i64 2, .int .i64 3, .int .i64 3, .int .i64 0, .int .i64 0, .int .i64 0, .int .i64 0], .agg #[.int .i64 2, .slice a5 1 c5], .agg #[.int .i64 2, .int .i64 1, .int .i64 2, .int .i64 0, .int .i64 0, .int .i64 0, .int .i64 0], .agg #[.int .i64 2, .slice a6 1 c6], x24, x25, x26, x27, x28, x29, x30, x31, x32, x33, x34, x35, x36, x37, x38, x39, x40, x41, x42, x43, x44, x45, x46, x47, x48, x49, x50, x51, x52, x53, x54, x55, x56, x57, x58, x59, x60, x61, x62, x63, x64, x65, x66, x67, x68, x69, x70, x71, x72, x73, x74, x75, x76, x77, x78, x79, x80, x81, x82, x83, x84, x85, x86, x87, x88, x89, x90, x91, x92, x93, x94, x95, x96, x97, x98, x99, x100, x101, x102, x103, x104, x105, x106, x107, x108, x109, x110, x111], []⟩ W) :
    (Code.region 3 opsAw3 true).wp Tryz.prog Q ⟨#[x0, .pointer (some ⟨p1, 0, none⟩), .pointer (some ⟨p2, 0, none⟩), x3, x4, x5, x6, x7, x8, x9, x10, x11, x12, x13, x14, x15, x16, x17, x18, x19, x20, x21, x22, x23, x24, x25, x26, x27, x28, x29, x30, x31, x32, x33, x34, x35, x36, x37, x38, x39, x40, x41, x42, x43, x44, x45, x46, x47, x48, x49, x50, x51, x52, x53, x54, x55, x56, x57, x58, x59, x60, x61, x62, x63, x64, x65, x66, x67, x68, x69, x70, x71, x72, x73, x74, x75, x76, x77, x78, x79, x80, x81, x82, x83, x84, x85, x86, x87, x88, x89, x90, x91, x92, x93, x94, x95, x96, x97, x98, x99, x100, x101, x102, x103, x104, x105, x106, x107, x108, x109, x110, x111], []⟩ w := by
  have HC1 := Lib.hid (fun W => alwaysCall (w := W) (r0 := 2) (r1 := 3) (r2 := 3) (r3 := 0) (r4 := 0) (r5 := 0) (r6 := 0))
  have HC2 := Lib.hid (fun W => alwaysCall (w := W) (r0 := 2) (r1 := 1) (r2 := 2) (r3 := 0) (r4 := 0) (r5 := 0) (r6 := 0))
  have ho0 : opsAw3[0]? = some { dst := some 20, op := Op.load 51 (Operand.tmp 2), type := 51, pos := "law.go:25", after := #[], guard := none } := rfl
  have ho1 : opsAw3[1]? = some { dst := some 21, op := Op.call { callee := Callee.value (Operand.func 28), args := #[Operand.tmp 20], argTypes := #[51] }, type := 24, pos := "law.go:25", after := #[{ on := 0, ground := Ground.data }], guard := none } := rfl
  have ho2 : opsAw3[2]? = some { dst := some 22, op := Op.load 51 (Operand.tmp 1), type := 51, pos := "law.go:25", after := #[], guard := none } := rfl
  have ho3 : opsAw3[3]? = some { dst := some 23, op := Op.call { callee := Callee.value (Operand.func 28), args := #[Operand.tmp 22], argTypes := #[51] }, type := 24, pos := "law.go:25", after := #[{ on := 2, ground := Ground.data }, { on := 1, ground := Ground.chain }], guard := none } := rfl
  have ho4 : opsAw3[4]? = some { dst := some 3, op := Op.alloc 24, type := 0, pos := "law.go:25", after := #[], guard := none } := rfl
  have ho5 : opsAw3[5]? = some { dst := some 4, op := Op.alloc 24, type := 0, pos := "law.go:25", after := #[], guard := none } := rfl
  have ho6 : opsAw3[6]? = some { dst := none, op := Op.store 24 (Operand.tmp 3) (Operand.tmp 21), type := 0, pos := "law.go:25", after := #[{ on := 4, ground := Ground.data }, { on := 1, ground := Ground.data }, { on := 3, ground := Ground.chain }, { on := 0, ground := Ground.phase }, { on := 1, ground := Ground.phase }, { on := 2, ground := Ground.textOnly Departure.lateStores }, { on := 3, ground := Ground.textOnly Departure.lateStoresUnsure }, { on := 4, ground := Ground.phase }, { on := 5, ground := Ground.phase }], guard := none } := rfl
  have ho7 : opsAw3[7]? = some { dst := none, op := Op.store 24 (Operand.tmp 4) (Operand.tmp 23), type := 0, pos := "law.go:25", after := #[{ on := 5, ground := Ground.data }, { on := 3, ground := Ground.data }, { on := 6, ground := Ground.chain }, { on := 0, ground := Ground.phase }, { on := 1, ground := Ground.phase }, { on := 2, ground := Ground.phase }, { on := 3, ground := Ground.phase }, { on := 4, ground := Ground.phase }, { on := 5, ground := Ground.phase }, { on := 6, ground := Ground.phase }], guard := none } := rfl
  refine wp_region_any (by kernel_rfl) ?_
  have st01234567_ : ∀ (W : World) (hb : Below w.heap.size w W) (a5 : Option Addr) (c5 : Nat) (hA : OwAdv W (.agg #[.int .i64 2, .slice a5 1 c5]) 2 (alw1 rdC)) (a6 : Option Addr) (c6 : Nat) (hB : OwAdv W (.agg #[.int .i64 2, .slice a6 1 c6]) 2 (alw1 rdS)) (b3 : Nat) (h3 : w.heap.size ≤ b3) (k3 : W.heap[b3]? = some (.cells #[.int .i64 2, .slice a5 1 c5] 24)) (b4 : Nat) (h4 : w.heap.size ≤ b4) (k4 : W.heap[b4]? = some (.cells #[.int .i64 2, .slice a6 1 c6] 24)) (hne : b3 ≠ b4), wpAny Tryz.prog .any opsAw3 Q 0 #[true, true, true, true, true, true, true, true] ⟨#[x0, .pointer (some ⟨p1, 0, none⟩), .pointer (some ⟨p2, 0, none⟩), .pointer (some ⟨b3, 0, none⟩), .pointer (some ⟨b4, 0, none⟩), x5, x6, x7, x8, x9, x10, x11, x12, x13, x14, x15, x16, x17, x18, x19, .agg #[.int .i64 2, .int .i64 3, .int .i64 3, .int .i64 0, .int .i64 0, .int .i64 0, .int .i64 0], .agg #[.int .i64 2, .slice a5 1 c5], .agg #[.int .i64 2, .int .i64 1, .int .i64 2, .int .i64 0, .int .i64 0, .int .i64 0, .int .i64 0], .agg #[.int .i64 2, .slice a6 1 c6], x24, x25, x26, x27, x28, x29, x30, x31, x32, x33, x34, x35, x36, x37, x38, x39, x40, x41, x42, x43, x44, x45, x46, x47, x48, x49, x50, x51, x52, x53, x54, x55, x56, x57, x58, x59, x60, x61, x62, x63, x64, x65, x66, x67, x68, x69, x70, x71, x72, x73, x74, x75, x76, x77, x78, x79, x80, x81, x82, x83, x84, x85, x86, x87, x88, x89, x90, x91, x92, x93, x94, x95, x96, x97, x98, x99, x100, x101, x102, x103, x104, x105, x106, x107, x108, x109, x110, x111], []⟩ W := by
    intro W hb a5 c5 hA a6 c6 hB b3 h3 k3 b4 h4 k4 hne
    exact ⟨by kernel_rfl, h _ hb a5 c5 hA a6 c6 hB b3 h3 k3 b4 h4 k4 hne⟩
  have st0123456_ : ∀ (W : World) (hb : Below w.heap.size w W) (a5 : Option Addr) (c5 : Nat) (hA : OwAdv W (.agg #[.int .i64 2, .slice a5 1 c5]) 2 (alw1 rdC)) (a6 : Option Addr) (c6 : Nat) (hB : OwAdv W (.agg #[.int .i64 2, .slice a6 1 c6]) 2 (alw1 rdS)) (b3 : Nat) (h3 : w.heap.size ≤ b3) (k3 : W.heap[b3]? = some (.cells #[.int .i64 2, .slice a5 1 c5] 24)) (b4 : Nat) (h4 : w.heap.size ≤ b4) (k4 : BxZ W b4) (hne : b3 ≠ b4), wpAny Tryz.prog .any opsAw3 Q 1 #[true, true, true, true, true, true, true, false] ⟨#[x0, .pointer (some ⟨p1, 0, none⟩), .pointer (some ⟨p2, 0, none⟩), .pointer (some ⟨b3, 0, none⟩), .pointer (some ⟨b4, 0, none⟩), x5, x6, x7, x8, x9, x10, x11, x12, x13, x14, x15, x16, x17, x18, x19, .agg #[.int .i64 2, .int .i64 3, .int .i64 3, .int .i64 0, .int .i64 0, .int .i64 0, .int .i64 0], .agg #[.int .i64 2, .slice a5 1 c5], .agg #[.int .i64 2, .int .i64 1, .int .i64 2, .int .i64 0, .int .i64 0, .int .i64 0, .int .i64 0], .agg #[.int .i64 2, .slice a6 1 c6], x24, x25, x26, x27, x28, x29, x30, x31, x32, x33, x34, x35, x36, x37, x38, x39, x40, x41, x42, x43, x44, x45, x46, x47, x48, x49, x50, x51, x52, x53, x54, x55, x56, x57, x58, x59, x60, x61, x62, x63, x64, x65, x66, x67, x68, x69, x70, x71, x72, x73, x74, x75, x76, x77, x78, x79, x80, x81, x82, x83, x84, x85, x86, x87, x88, x89, x90, x91, x92, x93, x94, x95, x96, x97, x98, x99, x100, x101, x102, x103, x104, x105, x106, x107, x108, x109, x110, x111], []⟩ W := by
    intro W hb a5 c5 hA a6 c6 hB b3 h3 k3 b4 h4 k4 hne
    refine wpAny_ready (rs := [7]) (by kernel_rfl) (by simp) ?_
    refine AllReady.cons ho7 (fun K hK => ?_) AllReady.nil
    · obtain ⟨y0, y1, yf⟩ := BxZ.f k4
      go_simp
      refine hK _ _ ?_
      exact st01234567_ ((W.setCell ⟨b4, 0, none⟩ (.int .i64 2)).setCell ⟨b4, 1, none⟩ (.slice a6 1 c6)) (gS (gS hb h4 0 (.int .i64 2)) h4 1 (.slice a6 1 c6)) a5 c5 (hA.other ((KeepX.setCell (p := ⟨b4, 0, none⟩) k4 (.int .i64 2)).trans (KeepX.setCell (p := ⟨b4, 1, none⟩) (hS0 (u := .int .i64 2) k4) (.slice a6 1 c6)))) a6 c6 (hB.other ((KeepX.setCell (p := ⟨b4, 0, none⟩) k4 (.int .i64 2)).trans (KeepX.setCell (p := ⟨b4, 1, none⟩) (hS0 (u := .int .i64 2) k4) (.slice a6 1 c6)))) b3 h3 (hSn (hSn k3 hne) hne) b4 h4 (boxSet2' (u := .int .i64 2) (v := .slice a6 1 c6) k4) hne
  have st012345_ : ∀ (W : World) (hb : Below w.heap.size w W) (a5 : Option Addr) (c5 : Nat) (hA : OwAdv W (.agg #[.int .i64 2, .slice a5 1 c5]) 2 (alw1 rdC)) (a6 : Option Addr) (c6 : Nat) (hB : OwAdv W (.agg #[.int .i64 2, .slice a6 1 c6]) 2 (alw1 rdS)) (b3 : Nat) (h3 : w.heap.size ≤ b3) (k3 : BxZ W b3) (b4 : Nat) (h4 : w.heap.size ≤ b4) (k4 : BxZ W b4) (hne : b3 ≠ b4), wpAny Tryz.prog .any opsAw3 Q 2 #[true, true, true, true, true, true, false, false] ⟨#[x0, .pointer (some ⟨p1, 0, none⟩), .pointer (some ⟨p2, 0, none⟩), .pointer (some ⟨b3, 0, none⟩), .pointer (some ⟨b4, 0, none⟩), x5, x6, x7, x8, x9, x10, x11, x12, x13, x14, x15, x16, x17, x18, x19, .agg #[.int .i64 2, .int .i64 3, .int .i64 3, .int .i64 0, .int .i64 0, .int .i64 0, .int .i64 0], .agg #[.int .i64 2, .slice a5 1 c5], .agg #[.int .i64 2, .int .i64 1, .int .i64 2, .int .i64 0, .int .i64 0, .int .i64 0, .int .i64 0], .agg #[.int .i64 2, .slice a6 1 c6], x24, x25, x26, x27, x28, x29, x30, x31, x32, x33, x34, x35, x36, x37, x38, x39, x40, x41, x42, x43, x44, x45, x46, x47, x48, x49, x50, x51, x52, x53, x54, x55, x56, x57, x58, x59, x60, x61, x62, x63, x64, x65, x66, x67, x68, x69, x70, x71, x72, x73, x74, x75, x76, x77, x78, x79, x80, x81, x82, x83, x84, x85, x86, x87, x88, x89, x90, x91, x92, x93, x94, x95, x96, x97, x98, x99, x100, x101, x102, x103, x104, x105, x106, x107, x108, x109, x110, x111], []⟩ W := by
    intro W hb a5 c5 hA a6 c6 hB b3 h3 k3 b4 h4 k4 hne
    refine wpAny_ready (rs := [6]) (by kernel_rfl) (by simp) ?_
    refine AllReady.cons ho6 (fun K hK => ?_) AllReady.nil
    · obtain ⟨y0, y1, yf⟩ := BxZ.f k3
      go_simp
      refine hK _ _ ?_
      exact st0123456_ ((W.setCell ⟨b3, 0, none⟩ (.int .i64 2)).setCell ⟨b3, 1, none⟩ (.slice a5 1 c5)) (gS (gS hb h3 0 (.int .i64 2)) h3 1 (.slice a5 1 c5)) a5 c5 (hA.other ((KeepX.setCell (p := ⟨b3, 0, none⟩) k3 (.int .i64 2)).trans (KeepX.setCell (p := ⟨b3, 1, none⟩) (hS0 (u := .int .i64 2) k3) (.slice a5 1 c5)))) a6 c6 (hB.other ((KeepX.setCell (p := ⟨b3, 0, none⟩) k3 (.int .i64 2)).trans (KeepX.setCell (p := ⟨b3, 1, none⟩) (hS0 (u := .int .i64 2) k3) (.slice a5 1 c5)))) b3 h3 (boxSet2' (u := .int .i64 2) (v := .slice a5 1 c5) k3) b4 h4 (hSn (hSn k4 hne.symm) hne.symm) hne
  have st01234_ : ∀ (W : World) (hb : Below w.heap.size w W) (a5 : Option Addr) (c5 : Nat) (hA : OwAdv W (.agg #[.int .i64 2, .slice a5 1 c5]) 2 (alw1 rdC)) (a6 : Option Addr) (c6 : Nat) (hB : OwAdv W (.agg #[.int .i64 2, .slice a6 1 c6]) 2 (alw1 rdS)) (b3 : Nat) (h3 : w.heap.size ≤ b3) (k3 : BxZ W b3), wpAny Tryz.prog .any opsAw3 Q 3 #[true, true, true, true, true, false, false, false] ⟨#[x0, .pointer (some ⟨p1, 0, none⟩), .pointer (some ⟨p2, 0, none⟩), .pointer (some ⟨b3, 0, none⟩), x4, x5, x6, x7, x8, x9, x10, x11, x12, x13, x14, x15, x16, x17, x18, x19, .agg #[.int .i64 2, .int .i64 3, .int .i64 3, .int .i64 0, .int .i64 0, .int .i64 0, .int .i64 0], .agg #[.int .i64 2, .slice a5 1 c5], .agg #[.int .i64 2, .int .i64 1, .int .i64 2, .int .i64 0, .int .i64 0, .int .i64 0, .int .i64 0], .agg #[.int .i64 2, .slice a6 1 c6], x24, x25, x26, x27, x28, x29, x30, x31, x32, x33, x34, x35, x36, x37, x38, x39, x40, x41, x42, x43, x44, x45, x46, x47, x48, x49, x50, x51, x52, x53, x54, x55, x56, x57, x58, x59, x60, x61, x62, x63, x64, x65, x66, x67, x68, x69, x70, x71, x72, x73, x74, x75, x76, x77, x78, x79, x80, x81, x82, x83, x84, x85, x86, x87, x88, x89, x90, x91, x92, x93, x94, x95, x96, x97, x98, x99, x100, x101, x102, x103, x104, x105, x106, x107, x108, x109, x110, x111], []⟩ W := by
    intro W hb a5 c5 hA a6 c6 hB b3 h3 k3
    refine wpAny_ready (rs := [5]) (by kernel_rfl) (by simp) ?_
    refine AllReady.cons ho5 (fun K hK => ?_) AllReady.nil
    · go_simp
      refine hK _ _ ?_
      exact st012345_ (W.alloc (.cells #[.int .i64 0, .slice none 0 0] 24)) (gA hb _) a5 c5 (hA.keep (gA (Below.refl _ _) _)) a6 c6 (hB.keep (gA (Below.refl _ _) _)) b3 h3 (hAn k3) W.heap.size hb.size (heap_alloc_new _ _) (Nat.ne_of_lt (Array.getElem?_eq_some_iff.1 k3).1)
  have st01235_ : ∀ (W : World) (hb : Below w.heap.size w W) (a5 : Option Addr) (c5 : Nat) (hA : OwAdv W (.agg #[.int .i64 2, .slice a5 1 c5]) 2 (alw1 rdC)) (a6 : Option Addr) (c6 : Nat) (hB : OwAdv W (.agg #[.int .i64 2, .slice a6 1 c6]) 2 (alw1 rdS)) (b4 : Nat) (h4 : w.heap.size ≤ b4) (k4 : BxZ W b4), wpAny Tryz.prog .any opsAw3 Q 3 #[true, true, true, true, false, true, false, false] ⟨#[x0, .pointer (some ⟨p1, 0, none⟩), .pointer (some ⟨p2, 0, none⟩), x3, .pointer (some ⟨b4, 0, none⟩), x5, x6, x7, x8, x9, x10, x11, x12, x13, x14, x15, x16, x17, x18, x19, .agg #[.int .i64 2, .int .i64 3, .int .i64 3, .int .i64 0, .int .i64 0, .int .i64 0, .int .i64 0], .agg #[.int .i64 2, .slice a5 1 c5], .agg #[.int .i64 2, .int .i64 1, .int .i64 2, .int .i64 0, .int .i64 0, .int .i64 0, .int .i64 0], .agg #[.int .i64 2, .slice a6 1 c6], x24, x25, x26, x27, x28, x29, x30, x31, x32, x33, x34, x35, x36, x37, x38, x39, x40, x41, x42, x43, x44, x45, x46, x47, x48, x49, x50, x51, x52, x53, x54, x55, x56, x57, x58, x59, x60, x61, x62, x63, x64, x65, x66, x67, x68, x69, x70, x71, x72, x73, x74, x75, x76, x77, x78, x79, x80, x81, x82, x83, x84, x85, x86, x87, x88, x89, x90, x91, x92, x93, x94, x95, x96, x97, x98, x99, x100, x101, x102, x103, x104, x105, x106, x107, x108, x109, x110, x111], []⟩ W := by
    intro W hb a5 c5 hA a6 c6 hB b4 h4 k4
    refine wpAny_ready (rs := [4]) (by kernel_rfl) (by simp) ?_
    refine AllReady.cons ho4 (fun K hK => ?_) AllReady.nil
    · go_simp
      refine hK _ _ ?_
      exact st012345_ (W.alloc (.cells #[.int .i64 0, .slice none 0 0] 24)) (gA hb _) a5 c5 (hA.keep (gA (Below.refl _ _) _)) a6 c6 (hB.keep (gA (Below.refl _ _) _)) W.heap.size hb.size (heap_alloc_new _ _) b4 h4 (hAn k4) (Nat.ne_of_gt (Array.getElem?_eq_some_iff.1 k4).1)
  have st01245_ : ∀ (W : World) (hb : Below w.heap.size w W) (a5 : Option Addr) (c5 : Nat) (hA : OwAdv W (.agg #[.int .i64 2, .slice a5 1 c5]) 2 (alw1 rdC)) (b3 : Nat) (h3 : w.heap.size ≤ b3) (k3 : BxZ W b3) (b4 : Nat) (h4 : w.heap.size ≤ b4) (k4 : BxZ W b4) (hne : b3 ≠ b4), wpAny Tryz.prog .any opsAw3 Q 3 #[true, true, true, false, true, true, false, false] ⟨#[x0, .pointer (some ⟨p1, 0, none⟩), .pointer (some ⟨p2, 0, none⟩), .pointer (some ⟨b3, 0, none⟩), .pointer (some ⟨b4, 0, none⟩), x5, x6, x7, x8, x9, x10, x11, x12, x13, x14, x15, x16, x17, x18, x19, .agg #[.int .i64 2, .int .i64 3, .int .i64 3, .int .i64 0, .int .i64 0, .int .i64 0, .int .i64 0], .agg #[.int .i64 2, .slice a5 1 c5], .agg #[.int .i64 2, .int .i64 1, .int .i64 2, .int .i64 0, .int .i64 0, .int .i64 0, .int .i64 0], x23, x24, x25, x26, x27, x28, x29, x30, x31, x32, x33, x34, x35, x36, x37, x38, x39, x40, x41, x42, x43, x44, x45, x46, x47, x48, x49, x50, x51, x52, x53, x54, x55, x56, x57, x58, x59, x60, x61, x62, x63, x64, x65, x66, x67, x68, x69, x70, x71, x72, x73, x74, x75, x76, x77, x78, x79, x80, x81, x82, x83, x84, x85, x86, x87, x88, x89, x90, x91, x92, x93, x94, x95, x96, x97, x98, x99, x100, x101, x102, x103, x104, x105, x106, x107, x108, x109, x110, x111], []⟩ W := by
    intro W hb a5 c5 hA b3 h3 k3 b4 h4 k4 hne
    refine wpAny_ready (rs := [3]) (by kernel_rfl) (by simp) ?_
    refine AllReady.cons ho3 (fun K hK => ?_) AllReady.nil
    · go_simp
      go_at_call 28
      (with_reducible refine (HC2.out W).mono ?_)
      rintro e W9 ⟨a6, c6, rfl, hB9, hb9⟩
      dsimp only
      refine hK _ _ ?_
      exact st012345_ W9 (gT hb9 hb) a5 c5 (hA.keep hb9) a6 c6 hB9 b3 h3 (kept hb9 k3) b4 h4 (kept hb9 k4) hne
  have st0123_ : ∀ (W : World) (hb : Below w.heap.size w W) (a5 : Option Addr) (c5 : Nat) (hA : OwAdv W (.agg #[.int .i64 2, .slice a5 1 c5]) 2 (alw1 rdC)) (a6 : Option Addr) (c6 : Nat) (hB : OwAdv W (.agg #[.int .i64 2, .slice a6 1 c6]) 2 (alw1 rdS)), wpAny Tryz.prog .any opsAw3 Q 4 #[true, true, true, true, false, false, false, false] ⟨#[x0, .pointer (some ⟨p1, 0, none⟩), .pointer (some ⟨p2, 0, none⟩), x3, x4, x5, x6, x7, x8, x9, x10, x11, x12, x13, x14, x15, x16, x17, x18, x19, .agg #[.int .i64 2, .int .i64 3, .int .i64 3, .int .i64 0, .int .i64 0, .int .i64 0, .int .i64 0], .agg #[.int .i64 2, .slice a5 1 c5], .agg #[.int .i64 2, .int .i64 1, .int .i64 2, .int .i64 0, .int .i64 0, .int .i64 0, .int .i64 0], .agg #[.int .i64 2, .slice a6 1 c6], x24, x25, x26, x27, x28, x29, x30, x31, x32, x33, x34, x35, x36, x37, x38, x39, x40, x41, x42, x43, x44, x45, x46, x47, x48, x49, x50, x51, x52, x53, x54, x55, x56, x57, x58, x59, x60, x61, x62, x63, x64, x65, x66, x67, x68, x69, x70, x71, x72, x73, x74, x75, x76, x77, x78, x79, x80, x81, x82, x83, x84, x85, x86, x87, x88, x89, x90, x91, x92, x93, x94, x95, x96, x97, x98, x99, x100, x101, x102, x103, x104, x105, x106, x107, x108, x109, x110, x111], []⟩ W := by
    intro W hb a5 c5 hA a6 c6 hB
    refine wpAny_ready (rs := [4, 5]) (by kernel_rfl) (by simp) ?_
    refine AllReady.cons ho4 (fun K hK => ?_) (AllReady.cons ho5 (fun K hK => ?_) AllReady.nil)
    · go_simp
      refine hK _ _ ?_
      exact st01234_ (W.alloc (.cells #[.int .i64 0, .slice none 0 0] 24)) (gA hb _) a5 c5 (hA.keep (gA (Below.refl _ _) _)) a6 c6 (hB.keep (gA (Below.refl _ _) _)) W.heap.size hb.size (heap_alloc_new _ _)
    · go_simp
      refine hK _ _ ?_
      exact st01235_ (W.alloc (.cells #[.int .i64 0, .slice none 0 0] 24)) (gA hb _) a5 c5 (hA.keep (gA (Below.refl _ _) _)) a6 c6 (hB.keep (gA (Below.refl _ _) _)) W.heap.size hb.size (heap_alloc_new _ _)
  have st0124_ : ∀ (W : World) (hb : Below w.heap.size w W) (a5 : Option Addr) (c5 : Nat) (hA : OwAdv W (.agg #[.int .i64 2, .slice a5 1 c5]) 2 (alw1 rdC)) (b3 : Nat) (h3 : w.heap.size ≤ b3) (k3 : BxZ W b3), wpAny Tryz.prog .any opsAw3 Q 4 #[true, true, true, false, true, false, false, false] ⟨#[x0, .pointer (some ⟨p1, 0, none⟩), .pointer (some ⟨p2, 0, none⟩), .pointer (some ⟨b3, 0, none⟩), x4, x5, x6, x7, x8, x9, x10, x11, x12, x13, x14, x15, x16, x17, x18, x19, .agg #[.int .i64 2, .int .i64 3, .int .i64 3, .int .i64 0, .int .i64 0, .int .i64 0, .int .i64 0], .agg #[.int .i64 2, .slice a5 1 c5], .agg #[.int .i64 2, .int .i64 1, .int .i64 2, .int .i64 0, .int .i64 0, .int .i64 0, .int .i64 0], x23, x24, x25, x26, x27, x28, x29, x30, x31, x32, x33, x34, x35, x36, x37, x38, x39, x40, x41, x42, x43, x44, x45, x46, x47, x48, x49, x50, x51, x52, x53, x54, x55, x56, x57, x58, x59, x60, x61, x62, x63, x64, x65, x66, x67, x68, x69, x70, x71, x72, x73, x74, x75, x76, x77, x78, x79, x80, x81, x82, x83, x84, x85, x86, x87, x88, x89, x90, x91, x92, x93, x94, x95, x96, x97, x98, x99, x100, x101, x102, x103, x104, x105, x106, x107, x108, x109, x110, x111], []⟩ W := by
    intro W hb a5 c5 hA b3 h3 k3
    refine wpAny_ready (rs := [3, 5]) (by kernel_rfl) (by simp) ?_
    refine AllReady.cons ho3 (fun K hK => ?_) (AllReady.cons ho5 (fun K hK => ?_) AllReady.nil)
    · go_simp
      go_at_call 28
      (with_reducible refine (HC2.out W).mono ?_)
      rintro e W9 ⟨a6, c6, rfl, hB9, hb9⟩
      dsimp only
      refine hK _ _ ?_
      exact st01234_ W9 (gT hb9 hb) a5 c5 (hA.keep hb9) a6 c6 hB9 b3 h3 (kept hb9 k3)
    · go_simp
      refine hK _ _ ?_
      exact st01245_ (W.alloc (.cells #[.int .i64 0, .slice none 0 0] 24)) (gA hb _) a5 c5 (hA.keep (gA (Below.refl _ _) _)) b3 h3 (hAn k3) W.heap.size hb.size (heap_alloc_new _ _) (Nat.ne_of_lt (Array.getElem?_eq_some_iff.1 k3).1)
  have st0125_ : ∀ (W : World) (hb : Below w.heap.size w W) (a5 : Option Addr) (c5 : Nat) (hA : OwAdv W (.agg #[.int .i64 2, .slice a5 1 c5]) 2 (alw1 rdC)) (b4 : Nat) (h4 : w.heap.size ≤ b4) (k4 : BxZ W b4), wpAny Tryz.prog .any opsAw3 Q 4 #[true, true, true, false, false, true, false, false] ⟨#[x0, .pointer (some ⟨p1, 0, none⟩), .pointer (some ⟨p2, 0, none⟩), x3, .pointer (some ⟨b4, 0, none⟩), x5, x6, x7, x8, x9, x10, x11, x12, x13, x14, x15, x16, x17, x18, x19, .agg #[.int .i64 2, .int .i64 3, .int .i64 3, .int .i64 0, .int .i64 0, .int .i64 0, .int .i64 0], .agg #[.int .i64 2, .slice a5 1 c5], .agg #[.int .i64 2, .int .i64 1, .int .i64 2, .int .i64 0, .int .i64 0, .int .i64 0, .int .i64 0], x23, x24, x25, x26, x27, x28, x29, x30, x31, x32, x33, x34, x35, x36, x37, x38, x39, x40, x41, x42, x43, x44, x45, x46, x47, x48, x49, x50, x51, x52, x53, x54, x55, x56, x57, x58, x59, x60, x61, x62, x63, x64, x65, x66, x67, x68, x69, x70, x71, x72, x73, x74, x75, x76, x77, x78, x79, x80, x81, x82, x83, x84, x85, x86, x87, x88, x89, x90, x91, x92, x93, x94, x95, x96, x97, x98, x99, x100, x101, x102, x103, x104, x105, x106, x107, x108, x109, x110, x111], []⟩ W := by
    intro W hb a5 c5 hA b4 h4 k4
    refine wpAny_ready (rs := [3, 4]) (by kernel_rfl) (by simp) ?_
    refine AllReady.cons ho3 (fun K hK => ?_) (AllReady.cons ho4 (fun K hK => ?_) AllReady.nil)
    · go_simp
      go_at_call 28
      (with_reducible refine (HC2.out W).mono ?_)
      rintro e W9 ⟨a6, c6, rfl, hB9, hb9⟩
      dsimp only
      refine hK _ _ ?_
      exact st01235_ W9 (gT hb9 hb) a5 c5 (hA.keep hb9) a6 c6 hB9 b4 h4 (kept hb9 k4)
    · go_simp
      refine hK _ _ ?_
      exact st01245_ (W.alloc (.cells #[.int .i64 0, .slice none 0 0] 24)) (gA hb _) a5 c5 (hA.keep (gA (Below.refl _ _) _)) W.heap.size hb.size (heap_alloc_new _ _) b4 h4 (hAn k4) (Nat.ne_of_gt (Array.getElem?_eq_some_iff.1 k4).1)
  have st0145_ : ∀ (W : World) (hb : Below w.heap.size w W) (a5 : Option Addr) (c5 : Nat) (hA : OwAdv W (.agg #[.int .i64 2, .slice a5 1 c5]) 2 (alw1 rdC)) (b3 : Nat) (h3 : w.heap.size ≤ b3) (k3 : BxZ W b3) (b4 : Nat) (h4 : w.heap.size ≤ b4) (k4 : BxZ W b4) (hne : b3 ≠ b4), wpAny Tryz.prog .any opsAw3 Q 4 #[true, true, false, false, true, true, false, false] ⟨#[x0, .pointer (some ⟨p1, 0, none⟩), .pointer (some ⟨p2, 0, none⟩), .pointer (some ⟨b3, 0, none⟩), .pointer (some ⟨b4, 0, none⟩), x5, x6, x7, x8, x9, x10, x11, x12, x13, x14, x15, x16, x17, x18, x19, .agg #[.int .i64 2, .int .i64 3, .int .i64 3, .int .i64 0, .int .i64 0, .int .i64 0, .int .i64 0], .agg #[.int .i64 2, .slice a5 1 c5], x22, x23, x24, x25, x26, x27, x28, x29, x30, x31, x32, x33, x34, x35, x36, x37, x38, x39, x40, x41, x42, x43, x44, x45, x46, x47, x48, x49, x50, x51, x52, x53, x54, x55, x56, x57, x58, x59, x60, x61, x62, x63, x64, x65, x66, x67, x68, x69, x70, x71, x72, x73, x74, x75, x76, x77, x78, x79, x80, x81, x82, x83, x84, x85, x86, x87, x88, x89, x90, x91, x92, x93, x94, x95, x96, x97, x98, x99, x100, x101, x102, x103, x104, x105, x106, x107, x108, x109, x110, x111], []⟩ W := by
    intro W hb a5 c5 hA b3 h3 k3 b4 h4 k4 hne
    refine wpAny_ready (rs := [2]) (by kernel_rfl) (by simp) ?_
    refine AllReady.cons ho2 (fun K hK => ?_) AllReady.nil
    · obtain ⟨⟨_, s0, s1, s2, s3, s4, s5, s6⟩, ⟨_, d0, d1, d2, d3, d4, d5, d6⟩⟩ := hR.out W hb
      go_simp
      refine hK _ _ ?_
      exact st01245_ W hb a5 c5 hA b3 h3 k3 b4 h4 k4 hne
  have st0245_ : ∀ (W : World) (hb : Below w.heap.size w W) (b3 : Nat) (h3 : w.heap.size ≤ b3) (k3 : BxZ W b3) (b4 : Nat) (h4 : w.heap.size ≤ b4) (k4 : BxZ W b4) (hne : b3 ≠ b4), wpAny Tryz.prog .any opsAw3 Q 4 #[true, false, true, false, true, true, false, false] ⟨#[x0, .pointer (some ⟨p1, 0, none⟩), .pointer (some ⟨p2, 0, none⟩), .pointer (some ⟨b3, 0, none⟩), .pointer (some ⟨b4, 0, none⟩), x5, x6, x7, x8, x9, x10, x11, x12, x13, x14, x15, x16, x17, x18, x19, .agg #[.int .i64 2, .int .i64 3, .int .i64 3, .int .i64 0, .int .i64 0, .int .i64 0, .int .i64 0], x21, .agg #[.int .i64 2, .int .i64 1, .int .i64 2, .int .i64 0, .int .i64 0, .int .i64 0, .int .i64 0], x23, x24, x25, x26, x27, x28, x29, x30, x31, x32, x33, x34, x35, x36, x37, x38, x39, x40, x41, x42, x43, x44, x45, x46, x47, x48, x49, x50, x51, x52, x53, x54, x55, x56, x57, x58, x59, x60, x61, x62, x63, x64, x65, x66, x67, x68, x69, x70, x71, x72, x73, x74, x75, x76, x77, x78, x79, x80, x81, x82, x83, x84, x85, x86, x87, x88, x89, x90, x91, x92, x93, x94, x95, x96, x97, x98, x99, x100, x101, x102, x103, x104, x105, x106, x107, x108, x109, x110, x111], []⟩ W := by
    intro W hb b3 h3 k3 b4 h4 k4 hne
    refine wpAny_ready (rs := [1]) (by kernel_rfl) (by simp) ?_
    refine AllReady.cons ho1 (fun K hK => ?_) AllReady.nil
    · go_simp
      go_at_call 28
      (with_reducible refine (HC1.out W).mono ?_)
      rintro e W9 ⟨a5, c5, rfl, hA9, hb9⟩
      dsimp only
      refine hK _ _ ?_
      exact st01245_ W9 (gT hb9 hb) a5 c5 hA9 b3 h3 (kept hb9 k3) b4 h4 (kept hb9 k4) hne
  have st012_ : ∀ (W : World) (hb : Below w.heap.size w W) (a5 : Option Addr) (c5 : Nat) (hA : OwAdv W (.agg #[.int .i64 2, .slice a5 1 c5]) 2 (alw1 rdC)), wpAny Tryz.prog .any opsAw3 Q 5 #[true, true, true, false, false, false, false, false] ⟨#[x0, .pointer (some ⟨p1, 0, none⟩), .pointer (some ⟨p2, 0, none⟩), x3, x4, x5, x6, x7, x8, x9, x10, x11, x12, x13, x14, x15, x16, x17, x18, x19, .agg #[.int .i64 2, .int .i64 3, .int .i64 3, .int .i64 0, .int .i64 0, .int .i64 0, .int .i64 0], .agg #[.int .i64 2, .slice a5 1 c5], .agg #[.int .i64 2, .int .i64 1, .int .i64 2, .int .i64 0, .int .i64 0, .int .i64 0, .int .i64 0], x23, x24, x25, x26, x27, x28, x29, x30, x31, x32, x33, x34, x35, x36, x37, x38, x39, x40, x41, x42, x43, x44, x45, x46, x47, x48, x49, x50, x51, x52, x53, x54, x55, x56, x57, x58, x59, x60, x61, x62, x63, x64, x65, x66, x67, x68, x69, x70, x71, x72, x73, x74, x75, x76, x77, x78, x79, x80, x81, x82, x83, x84, x85, x86, x87, x88, x89, x90, x91, x92, x93, x94, x95, x96, x97, x98, x99, x100, x101, x102, x103, x104, x105, x106, x107, x108, x109, x110, x111], []⟩ W := by
    intro W hb a5 c5 hA
    refine wpAny_ready (rs := [3, 4, 5]) (by kernel_rfl) (by simp) ?_
    refine AllReady.cons ho3 (fun K hK => ?_) (AllReady.cons ho4 (fun K hK => ?_) (AllReady.cons ho5 (fun K hK => ?_) AllReady.nil))
    · go_simp
      go_at_call 28
      (with_reducible refine (HC2.out W).mono ?_)
      rintro e W9 ⟨a6, c6, rfl, hB9, hb9⟩
      dsimp only
      refine hK _ _ ?_
      exact st0123_ W9 (gT hb9 hb) a5 c5 (hA.keep hb9) a6 c6 hB9
    · go_simp
      refine hK _ _ ?_
      exact st0124_ (W.alloc (.cells #[.int .i64 0, .slice none 0 0] 24)) (gA hb _) a5 c5 (hA.keep (gA (Below.refl _ _) _)) W.heap.size hb.size (heap_alloc_new _ _)
    · go_simp
      refine hK _ _ ?_
      exact st0125_ (W.alloc (.cells #[.int .i64 0, .slice none 0 0] 24)) (gA hb _) a5 c5 (hA.keep (gA (Below.refl _ _) _)) W.heap.size hb.size (heap_alloc_new _ _)
  have st014_ : ∀ (W : World) (hb : Below w.heap.size w W) (a5 : Option Addr) (c5 : Nat) (hA : OwAdv W (.agg #[.int .i64 2, .slice a5 1 c5]) 2 (alw1 rdC)) (b3 : Nat) (h3 : w.heap.size ≤ b3) (k3 : BxZ W b3), wpAny Tryz.prog .any opsAw3 Q 5 #[true, true, false, false, true, false, false, false] ⟨#[x0, .pointer (some ⟨p1, 0, none⟩), .pointer (some ⟨p2, 0, none⟩), .pointer (some ⟨b3, 0, none⟩), x4, x5, x6, x7, x8, x9, x10, x11, x12, x13, x14, x15, x16, x17, x18, x19, .agg #[.int .i64 2, .int .i64 3, .int .i64 3, .int .i64 0, .int .i64 0, .int .i64 0, .int .i64 0], .agg #[.int .i64 2, .slice a5 1 c5], x22, x23, x24, x25, x26, x27, x28, x29, x30, x31, x32, x33, x34, x35, x36, x37, x38, x39, x40, x41, x42, x43, x44, x45, x46, x47, x48, x49, x50, x51, x52, x53, x54, x55, x56, x57, x58, x59, x60, x61, x62, x63, x64, x65, x66, x67, x68, x69, x70, x71, x72, x73, x74, x75, x76, x77, x78, x79, x80, x81, x82, x83, x84, x85, x86, x87, x88, x89, x90, x91, x92, x93, x94, x95, x96, x97, x98, x99, x100, x101, x102, x103, x104, x105, x106, x107, x108, x109, x110, x111], []⟩ W := by
    intro W hb a5 c5 hA b3 h3 k3
    refine wpAny_ready (rs := [2, 5]) (by kernel_rfl) (by simp) ?_
    refine AllReady.cons ho2 (fun K hK => ?_) (AllReady.cons ho5 (fun K hK => ?_) AllReady.nil)
    · obtain ⟨⟨_, s0, s1, s2, s3, s4, s5, s6⟩, ⟨_, d0, d1, d2, d3, d4, d5, d6⟩⟩ := hR.out W hb
      go_simp
      refine hK _ _ ?_
      exact st0124_ W hb a5 c5 hA b3 h3 k3
    · go_simp
      refine hK _ _ ?_
      exact st0145_ (W.alloc (.cells #[.int .i64 0, .slice none 0 0] 24)) (gA hb _) a5 c5 (hA.keep (gA (Below.refl _ _) _)) b3 h3 (hAn k3) W.heap.size hb.size (heap_alloc_new _ _) (Nat.ne_of_lt (Array.getElem?_eq_some_iff.1 k3).1)
  have st015_ : ∀ (W : World) (hb : Below w.heap.size w W) (a5 : Option Addr) (c5 : Nat) (hA : OwAdv W (.agg #[.int .i64 2, .slice a5 1 c5]) 2 (alw1 rdC)) (b4 : Nat) (h4 : w.heap.size ≤ b4) (k4 : BxZ W b4), wpAny Tryz.prog .any opsAw3 Q 5 #[true, true, false, false, false, true, false, false] ⟨#[x0, .pointer (some ⟨p1, 0, none⟩), .pointer (some ⟨p2, 0, none⟩), x3, .pointer (some ⟨b4, 0, none⟩), x5, x6, x7, x8, x9, x10, x11, x12, x13, x14, x15, x16, x17, x18, x19, .agg #[.int .i64 2, .int .i64 3, .int .i64 3, .int .i64 0, .int .i64 0, .int .i64 0, .int .i64 0], .agg #[.int .i64 2, .slice a5 1 c5], x22, x23, x24, x25, x26, x27, x28, x29, x30, x31, x32, x33, x34, x35, x36, x37, x38, x39, x40, x41, x42, x43, x44, x45, x46, x47, x48, x49, x50, x51, x52, x53, x54, x55, x56, x57, x58, x59, x60, x61, x62, x63, x64, x65, x66, x67, x68, x69, x70, x71, x72, x73, x74, x75, x76, x77, x78, x79, x80, x81, x82, x83, x84, x85, x86, x87, x88, x89, x90, x91, x92, x93, x94, x95, x96, x97, x98, x99, x100, x101, x102, x103, x104, x105, x106, x107, x108, x109, x110, x111], []⟩ W := by
    intro W hb a5 c5 hA b4 h4 k4
    refine wpAny_ready (rs := [2, 4]) (by kernel_rfl) (by simp) ?_
    refine AllReady.cons ho2 (fun K hK => ?_) (AllReady.cons ho4 (fun K hK => ?_) AllReady.nil)
    · obtain ⟨⟨_, s0, s1, s2, s3, s4, s5, s6⟩, ⟨_, d0, d1, d2, d3, d4, d5, d6⟩⟩ := hR.out W hb
      go_simp
      refine hK _ _ ?_
      exact st0125_ W hb a5 c5 hA b4 h4 k4
    · go_simp
      refine hK _ _ ?_
      exact st0145_ (W.alloc (.cells #[.int .i64 0, .slice none 0 0] 24)) (gA hb _) a5 c5 (hA.keep (gA (Below.refl _ _) _)) W.heap.size hb.size (heap_alloc_new _ _) b4 h4 (hAn k4) (Nat.ne_of_gt (Array.getElem?_eq_some_iff.1 k4).1)
  have st024_ : ∀ (W : World) (hb : Below w.heap.size w W) (b3 : Nat) (h3 : w.heap.size ≤ b3) (k3 : BxZ W b3), wpAny Tryz.prog .any opsAw3 Q 5 #[true, false, true, false, true, false, false, false] ⟨#[x0, .pointer (some ⟨p1, 0, none⟩), .pointer (some ⟨p2, 0, none⟩), .pointer (some ⟨b3, 0, none⟩), x4, x5, x6, x7, x8, x9, x10, x11, x12, x13, x14, x15, x16, x17, x18, x19, .agg #[.int .i64 2, .int .i64 3, .int .i64 3, .int .i64 0, .int .i64 0, .int .i64 0, .int .i64 0], x21, .agg #[.int .i64 2, .int .i64 1, .int .i64 2, .int .i64 0, .int .i64 0, .int .i64 0, .int .i64 0], x23, x24, x25, x26, x27, x28, x29, x30, x31, x32, x33, x34, x35, x36, x37, x38, x39, x40, x41, x42, x43, x44, x45, x46, x47, x48, x49, x50, x51, x52, x53, x54, x55, x56, x57, x58, x59, x60, x61, x62, x63, x64, x65, x66, x67, x68, x69, x70, x71, x72, x73, x74, x75, x76, x77, x78, x79, x80, x81, x82, x83, x84, x85, x86, x87, x88, x89, x90, x91, x92, x93, x94, x95, x96, x97, x98, x99, x100, x101, x102, x103, x104, x105, x106, x107, x108, x109, x110, x111], []⟩ W := by
    intro W hb b3 h3 k3
    refine wpAny_ready (rs := [1, 5]) (by kernel_rfl) (by simp) ?_
    refine AllReady.cons ho1 (fun K hK => ?_) (AllReady.cons ho5 (fun K hK => ?_) AllReady.nil)
    · go_simp
      go_at_call 28
      (with_reducible refine (HC1.out W).mono ?_)
      rintro e W9 ⟨a5, c5, rfl, hA9, hb9⟩
      dsimp only
      refine hK _ _ ?_
      exact st0124_ W9 (gT hb9 hb) a5 c5 hA9 b3 h3 (kept hb9 k3)
    · go_simp
      refine hK _ _ ?_
      exact st0245_ (W.alloc (.cells #[.int .i64 0, .slice none 0 0] 24)) (gA hb _) b3 h3 (hAn k3) W.heap.size hb.size (heap_alloc_new _ _) (Nat.ne_of_lt (Array.getElem?_eq_some_iff.1 k3).1)
  have st025_ : ∀ (W : World) (hb : Below w.heap.size w W) (b4 : Nat) (h4 : w.heap.size ≤ b4) (k4 : BxZ W b4), wpAny Tryz.prog .any opsAw3 Q 5 #[true, false, true, false, false, true, false, false] ⟨#[x0, .pointer (some ⟨p1, 0, none⟩), .pointer (some ⟨p2, 0, none⟩), x3, .pointer (some ⟨b4, 0, none⟩), x5, x6, x7, x8, x9, x10, x11, x12, x13, x14, x15, x16, x17, x18, x19, .agg #[.int .i64 2, .int .i64 3, .int .i64 3, .int .i64 0, .int .i64 0, .int .i64 0, .int .i64 0], x21, .agg #[.int .i64 2, .int .i64 1, .int .i64 2, .int .i64 0, .int .i64 0, .int .i64 0, .int .i64 0], x23, x24, x25, x26, x27, x28, x29, x30, x31, x32, x33, x34, x35, x36, x37, x38, x39, x40, x41, x42, x43, x44, x45, x46, x47, x48, x49, x50, x51, x52, x53, x54, x55, x56, x57, x58, x59, x60, x61, x62, x63, x64, x65, x66, x67, x68, x69, x70, x71, x72, x73, x74, x75, x76, x77, x78, x79, x80, x81, x82, x83, x84, x85, x86, x87, x88, x89, x90, x91, x92, x93, x94, x95, x96, x97, x98, x99, x100, x101, x102, x103, x104, x105, x106, x107, x108, x109, x110, x111], []⟩ W := by
    intro W hb b4 h4 k4
    refine wpAny_ready (rs := [1, 4]) (by kernel_rfl) (by simp) ?_
    refine AllReady.cons ho1 (fun K hK => ?_) (AllReady.cons ho4 (fun K hK => ?_) AllReady.nil)
    · go_simp
      go_at_call 28
      (with_reducible refine (HC1.out W).mono ?_)
      rintro e W9 ⟨a5, c5, rfl, hA9, hb9⟩
      dsimp only
      refine hK _ _ ?_
      exact st0125_ W9 (gT hb9 hb) a5 c5 hA9 b4 h4 (kept hb9 k4)
    · go_simp
      refine hK _ _ ?_
      exact st0245_ (W.alloc (.cells #[.int .i64 0, .slice none 0 0] 24)) (gA hb _) W.heap.size hb.size (heap_alloc_new _ _) b4 h4 (hAn k4) (Nat.ne_of_gt (Array.getElem?_eq_some_iff.1 k4).1)
  have st045_ : ∀ (W : World) (hb : Below w.heap.size w W) (b3 : Nat) (h3 : w.heap.size ≤ b3) (k3 : BxZ W b3) (b4 : Nat) (h4 : w.heap.size ≤ b4) (k4 : BxZ W b4) (hne : b3 ≠ b4), wpAny Tryz.prog .any opsAw3 Q 5 #[true, false, false, false, true, true, false, false] ⟨#[x0, .pointer (some ⟨p1, 0, none⟩), .pointer (some ⟨p2, 0, none⟩), .pointer (some ⟨b3, 0, none⟩), .pointer (some ⟨b4, 0, none⟩), x5, x6, x7, x8, x9, x10, x11, x12, x13, x14, x15, x16, x17, x18, x19, .agg #[.int .i64 2, .int .i64 3, .int .i64 3, .int .i64 0, .int .i64 0, .int .i64 0, .int .i64 0], x21, x22, x23, x24, x25, x26, x27, x28, x29, x30, x31, x32, x33, x34, x35, x36, x37, x38, x39, x40, x41, x42, x43, x44, x45, x46, x47, x48, x49, x50, x51, x52, x53, x54, x55, x56, x57, x58, x59, x60, x61, x62, x63, x64, x65, x66, x67, x68, x69, x70, x71, x72, x73, x74, x75, x76, x77, x78, x79, x80, x81, x82, x83, x84, x85, x86, x87, x88, x89, x90, x91, x92, x93, x94, x95, x96, x97, x98, x99, x100, x101, x102, x103, x104, x105, x106, x107, x108, x109, x110, x111], []⟩ W := by
    intro W hb b3 h3 k3 b4 h4 k4 hne
    refine wpAny_ready (rs := [1, 2]) (by kernel_rfl) (by simp) ?_
    refine AllReady.cons ho1 (fun K hK => ?_) (AllReady.cons ho2 (fun K hK => ?_) AllReady.nil)
    · go_simp
      go_at_call 28
      (with_reducible refine (HC1.out W).mono ?_)
      rintro e W9 ⟨a5, c5, rfl, hA9, hb9⟩
      dsimp only
      refine hK _ _ ?_
      exact st0145_ W9 (gT hb9 hb) a5 c5 hA9 b3 h3 (kept hb9 k3) b4 h4 (kept hb9 k4) hne
    · obtain ⟨⟨_, s0, s1, s2, s3, s4, s5, s6⟩, ⟨_, d0, d1, d2, d3, d4, d5, d6⟩⟩ := hR.out W hb
      go_simp
      refine hK _ _ ?_
      exact st0245_ W hb b3 h3 k3 b4 h4 k4 hne
  have st245_ : ∀ (W : World) (hb : Below w.heap.size w W) (b3 : Nat) (h3 : w.heap.size ≤ b3) (k3 : BxZ W b3) (b4 : Nat) (h4 : w.heap.size ≤ b4) (k4 : BxZ W b4) (hne : b3 ≠ b4), wpAny Tryz.prog .any opsAw3 Q 5 #[false, false, true, false, true, true, false, false] ⟨#[x0, .pointer (some ⟨p1, 0, none⟩), .pointer (some ⟨p2, 0, none⟩), .pointer (some ⟨b3, 0, none⟩), .pointer (some ⟨b4, 0, none⟩), x5, x6, x7, x8, x9, x10, x11, x12, x13, x14, x15, x16, x17, x18, x19, x20, x21, .agg #[.int .i64 2, .int .i64 1, .int .i64 2, .int .i64 0, .int .i64 0, .int .i64 0, .int .i64 0], x23, x24, x25, x26, x27, x28, x29, x30, x31, x32, x33, x34, x35, x36, x37, x38, x39, x40, x41, x42, x43, x44, x45, x46, x47, x48, x49, x50, x51, x52, x53, x54, x55, x56, x57, x58, x59, x60, x61, x62, x63, x64, x65, x66, x67, x68, x69, x70, x71, x72, x73, x74, x75, x76, x77, x78, x79, x80, x81, x82, x83, x84, x85, x86, x87, x88, x89, x90, x91, x92, x93, x94, x95, x96, x97, x98, x99, x100, x101, x102, x103, x104, x105, x106, x107, x108, x109, x110, x111], []⟩ W := by
    intro W hb b3 h3 k3 b4 h4 k4 hne
    refine wpAny_ready (rs := [0]) (by kernel_rfl) (by simp) ?_
    refine AllReady.cons ho0 (fun K hK => ?_) AllReady.nil
    · obtain ⟨⟨_, s0, s1, s2, s3, s4, s5, s6⟩, ⟨_, d0, d1, d2, d3, d4, d5, d6⟩⟩ := hR.out W hb
      go_simp
      refine hK _ _ ?_
      exact st0245_ W hb b3 h3 k3 b4 h4 k4 hne
  have st01_ : ∀ (W : World) (hb : Below w.heap.size w W) (a5 : Option Addr) (c5 : Nat) (hA : OwAdv W (.agg #[.int .i64 2, .slice a5 1 c5]) 2 (alw1 rdC)), wpAny Tryz.prog .any opsAw3 Q 6 #[true, true, false, false, false, false, false, false] ⟨#[x0, .pointer (some ⟨p1, 0, none⟩), .pointer (some ⟨p2, 0, none⟩), x3, x4, x5, x6, x7, x8, x9, x10, x11, x12, x13, x14, x15, x16, x17, x18, x19, .agg #[.int .i64 2, .int .i64 3, .int .i64 3, .int .i64 0, .int .i64 0, .int .i64 0, .int .i64 0], .agg #[.int .i64 2, .slice a5 1 c5], x22, x23, x24, x25, x26, x27, x28, x29, x30, x31, x32, x33, x34, x35, x36, x37, x38, x39, x40, x41, x42, x43, x44, x45, x46, x47, x48, x49, x50, x51, x52, x53, x54, x55, x56, x57, x58, x59, x60, x61, x62, x63, x64, x65, x66, x67, x68, x69, x70, x71, x72, x73, x74, x75, x76, x77, x78, x79, x80, x81, x82, x83, x84, x85, x86, x87, x88, x89, x90, x91, x92, x93, x94, x95, x96, x97, x98, x99, x100, x101, x102, x103, x104, x105, x106, x107, x108, x109, x110, x111], []⟩ W := by
    intro W hb a5 c5 hA
    refine wpAny_ready (rs := [2, 4, 5]) (by kernel_rfl) (by simp) ?_
    refine AllReady.cons ho2 (fun K hK => ?_) (AllReady.cons ho4 (fun K hK => ?_) (AllReady.cons ho5 (fun K hK => ?_) AllReady.nil))
    · obtain ⟨⟨_, s0, s1, s2, s3, s4, s5, s6⟩, ⟨_, d0, d1, d2, d3, d4, d5, d6⟩⟩ := hR.out W hb
      go_simp
      refine hK _ _ ?_
      exact st012_ W hb a5 c5 hA
    · go_simp
      refine hK _ _ ?_
      exact st014_ (W.alloc (.cells #[.int .i64 0, .slice none 0 0] 24)) (gA hb _) a5 c5 (hA.keep (gA (Below.refl _ _) _)) W.heap.size hb.size (heap_alloc_new _ _)
    · go_simp
      refine hK _ _ ?_
      exact st015_ (W.alloc (.cells #[.int .i64 0, .slice none 0 0] 24)) (gA hb _) a5 c5 (hA.keep (gA (Below.refl _ _) _)) W.heap.size hb.size (heap_alloc_new _ _)
  have st02_ : ∀ (W : World) (hb : Below w.heap.size w W), wpAny Tryz.prog .any opsAw3 Q 6 #[true, false, true, false, false, false, false, false] ⟨#[x0, .pointer (some ⟨p1, 0, none⟩), .pointer (some ⟨p2, 0, none⟩), x3, x4, x5, x6, x7, x8, x9, x10, x11, x12, x13, x14, x15, x16, x17, x18, x19, .agg #[.int .i64 2, .int .i64 3, .int .i64 3, .int .i64 0, .int .i64 0, .int .i64 0, .int .i64 0], x21, .agg #[.int .i64 2, .int .i64 1, .int .i64 2, .int .i64 0, .int .i64 0, .int .i64 0, .int .i64 0], x23, x24, x25, x26, x27, x28, x29, x30, x31, x32, x33, x34, x35, x36, x37, x38, x39, x40, x41, x42, x43, x44, x45, x46, x47, x48, x49, x50, x51, x52, x53, x54, x55, x56, x57, x58, x59, x60, x61, x62, x63, x64, x65, x66, x67, x68, x69, x70, x71, x72, x73, x74, x75, x76, x77, x78, x79, x80, x81, x82, x83, x84, x85, x86, x87, x88, x89, x90, x91, x92, x93, x94, x95, x96, x97, x98, x99, x100, x101, x102, x103, x104, x105, x106, x107, x108, x109, x110, x111], []⟩ W := by
    intro W hb
    refine wpAny_ready (rs := [1, 4, 5]) (by kernel_rfl) (by simp) ?_
    refine AllReady.cons ho1 (fun K hK => ?_) (AllReady.cons ho4 (fun K hK => ?_) (AllReady.cons ho5 (fun K hK => ?_) AllReady.nil))
    · go_simp
      go_at_call 28
      (with_reducible refine (HC1.out W).mono ?_)
      rintro e W9 ⟨a5, c5, rfl, hA9, hb9⟩
      dsimp only
      refine hK _ _ ?_
      exact st012_ W9 (gT hb9 hb) a5 c5 hA9
    · go_simp
      refine hK _ _ ?_
      exact st024_ (W.alloc (.cells #[.int .i64 0, .slice none 0 0] 24)) (gA hb _) W.heap.size hb.size (heap_alloc_new _ _)
    · go_simp
      refine hK _ _ ?_
      exact st025_ (W.alloc (.cells #[.int .i64 0, .slice none 0 0] 24)) (gA hb _) W.heap.size hb.size (heap_alloc_new _ _)
  have st04_ : ∀ (W : World) (hb : Below w.heap.size w W) (b3 : Nat) (h3 : w.heap.size ≤ b3) (k3 : BxZ W b3), wpAny Tryz.prog .any opsAw3 Q 6 #[true, false, false, false, true, false, false, false] ⟨#[x0, .pointer (some ⟨p1, 0, none⟩), .pointer (some ⟨p2, 0, none⟩), .pointer (some ⟨b3, 0, none⟩), x4, x5, x6, x7, x8, x9, x10, x11, x12, x13, x14, x15, x16, x17, x18, x19, .agg #[.int .i64 2, .int .i64 3, .int .i64 3, .int .i64 0, .int .i64 0, .int .i64 0, .int .i64 0], x21, x22, x23, x24, x25, x26, x27, x28, x29, x30, x31, x32, x33, x34, x35, x36, x37, x38, x39, x40, x41, x42, x43, x44, x45, x46, x47, x48, x49, x50, x51, x52, x53, x54, x55, x56, x57, x58, x59, x60, x61, x62, x63, x64, x65, x66, x67, x68, x69, x70, x71, x72, x73, x74, x75, x76, x77, x78, x79, x80, x81, x82, x83, x84, x85, x86, x87, x88, x89, x90, x91, x92, x93, x94, x95, x96, x97, x98, x99, x100, x101, x102, x103, x104, x105, x106, x107, x108, x109, x110, x111], []⟩ W := by
    intro W hb b3 h3 k3
    refine wpAny_ready (rs := [1, 2, 5]) (by kernel_rfl) (by simp) ?_
    refine AllReady.cons ho1 (fun K hK => ?_) (AllReady.cons ho2 (fun K hK => ?_) (AllReady.cons ho5 (fun K hK => ?_) AllReady.nil))
    · go_simp
      go_at_call 28
      (with_reducible refine (HC1.out W).mono ?_)
      rintro e W9 ⟨a5, c5, rfl, hA9, hb9⟩
      dsimp only
      refine hK _ _ ?_
      exact st014_ W9 (gT hb9 hb) a5 c5 hA9 b3 h3 (kept hb9 k3)
    · obtain ⟨⟨_, s0, s1, s2, s3, s4, s5, s6⟩, ⟨_, d0, d1, d2, d3, d4, d5, d6⟩⟩ := hR.out W hb
      go_simp
      refine hK _ _ ?_
      exact st024_ W hb b3 h3 k3
    · go_simp
      refine hK _ _ ?_
      exact st045_ (W.alloc (.cells #[.int .i64 0, .slice none 0 0] 24)) (gA hb _) b3 h3 (hAn k3) W.heap.size hb.size (heap_alloc_new _ _) (Nat.ne_of_lt (Array.getElem?_eq_some_iff.1 k3).1)
  have st05_ : ∀ (W : World) (hb : Below w.heap.size w W) (b4 : Nat) (h4 : w.heap.size ≤ b4) (k4 : BxZ W b4), wpAny Tryz.prog .any opsAw3 Q 6 #[true, false, false, false, false, true, false, false] ⟨#[x0, .pointer (some ⟨p1, 0, none⟩), .pointer (some ⟨p2, 0, none⟩), x3, .pointer (some ⟨b4, 0, none⟩), x5, x6, x7, x8, x9, x10, x11, x12, x13, x14, x15, x16, x17, x18, x19, .agg #[.int .i64 2, .int .i64 3, .int .i64 3, .int .i64 0, .int .i64 0, .int .i64 0, .int .i64 0], x21, x22, x23, x24, x25, x26, x27, x28, x29, x30, x31, x32, x33, x34, x35, x36, x37, x38, x39, x40, x41, x42, x43, x44, x45, x46, x47, x48, x49, x50, x51, x52, x53, x54, x55, x56, x57, x58, x59, x60, x61, x62, x63, x64, x65, x66, x67, x68, x69, x70, x71, x72, x73, x74, x75, x76, x77, x78, x79, x80, x81, x82, x83, x84, x85, x86, x87, x88, x89, x90, x91, x92, x93, x94, x95, x96, x97, x98, x99, x100, x101, x102, x103, x104, x105, x106, x107, x108, x109, x110, x111], []⟩ W := by
    intro W hb b4 h4 k4
    refine wpAny_ready (rs := [1, 2, 4]) (by kernel_rfl) (by simp) ?_
    refine AllReady.cons ho1 (fun K hK => ?_) (AllReady.cons ho2 (fun K hK => ?_) (AllReady.cons ho4 (fun K hK => ?_) AllReady.nil))
    · go_simp
      go_at_call 28
      (with_reducible refine (HC1.out W).mono ?_)
      rintro e W9 ⟨a5, c5, rfl, hA9, hb9⟩
      dsimp only
      refine hK _ _ ?_
      exact st015_ W9 (gT hb9 hb) a5 c5 hA9 b4 h4 (kept hb9 k4)
    · obtain ⟨⟨_, s0, s1, s2, s3, s4, s5, s6⟩, ⟨_, d0, d1, d2, d3, d4, d5, d6⟩⟩ := hR.out W hb
      go_simp
      refine hK _ _ ?_
      exact st025_ W hb b4 h4 k4
    · go_simp
      refine hK _ _ ?_
      exact st045_ (W.alloc (.cells #[.int .i64 0, .slice none 0 0] 24)) (gA hb _) W.heap.size hb.size (heap_alloc_new _ _) b4 h4 (hAn k4) (Nat.ne_of_gt (Array.getElem?_eq_some_iff.1 k4).1)
  have st24_ : ∀ (W : World) (hb : Below w.heap.size w W) (b3 : Nat) (h3 : w.heap.size ≤ b3) (k3 : BxZ W b3), wpAny Tryz.prog .any opsAw3 Q 6 #[false, false, true, false, true, false, false, false] ⟨#[x0, .pointer (some ⟨p1, 0, none⟩), .pointer (some ⟨p2, 0, none⟩), .pointer (some ⟨b3, 0, none⟩), x4, x5, x6, x7, x8, x9, x10, x11, x12, x13, x14, x15, x16, x17, x18, x19, x20, x21, .agg #[.int .i64 2, .int .i64 1, .int .i64 2, .int .i64 0, .int .i64 0, .int .i64 0, .int .i64 0], x23, x24, x25, x26, x27, x28, x29, x30, x31, x32, x33, x34, x35, x36, x37, x38, x39, x40, x41, x42, x43, x44, x45, x46, x47, x48, x49, x50, x51, x52, x53, x54, x55, x56, x57, x58, x59, x60, x61, x62, x63, x64, x65, x66, x67, x68, x69, x70, x71, x72, x73, x74, x75, x76, x77, x78, x79, x80, x81, x82, x83, x84, x85, x86, x87, x88, x89, x90, x91, x92, x93, x94, x95, x96, x97, x98, x99, x100, x101, x102, x103, x104, x105, x106, x107, x108, x109, x110, x111], []⟩ W := by
    intro W hb b3 h3 k3
    refine wpAny_ready (rs := [0, 5]) (by kernel_rfl) (by simp) ?_
    refine AllReady.cons ho0 (fun K hK => ?_) (AllReady.cons ho5 (fun K hK => ?_) AllReady.nil)
    · obtain ⟨⟨_, s0, s1, s2, s3, s4, s5, s6⟩, ⟨_, d0, d1, d2, d3, d4, d5, d6⟩⟩ := hR.out W hb
      go_simp
      refine hK _ _ ?_
      exact st024_ W hb b3 h3 k3
    · go_simp
      refine hK _ _ ?_
      exact st245_ (W.alloc (.cells #[.int .i64 0, .slice none 0 0] 24)) (gA hb _) b3 h3 (hAn k3) W.heap.size hb.size (heap_alloc_new _ _) (Nat.ne_of_lt (Array.getElem?_eq_some_iff.1 k3).1)
  have st25_ : ∀ (W : World) (hb : Below w.heap.size w W) (b4 : Nat) (h4 : w.heap.size ≤ b4) (k4 : BxZ W b4), wpAny Tryz.prog .any opsAw3 Q 6 #[false, false, true, false, false, true, false, false] ⟨#[x0, .pointer (some ⟨p1, 0, none⟩), .pointer (some ⟨p2, 0, none⟩), x3, .pointer (some ⟨b4, 0, none⟩), x5, x6, x7, x8, x9, x10, x11, x12, x13, x14, x15, x16, x17, x18, x19, x20, x21, .agg #[.int .i64 2, .int .i64 1, .int .i64 2, .int .i64 0, .int .i64 0, .int .i64 0, .int .i64 0], x23, x24, x25, x26, x27, x28, x29, x30, x31, x32, x33, x34, x35, x36, x37, x38, x39, x40, x41, x42, x43, x44, x45, x46, x47, x48, x49, x50, x51, x52, x53, x54, x55, x56, x57, x58, x59, x60, x61, x62, x63, x64, x65, x66, x67, x68, x69, x70, x71, x72, x73, x74, x75, x76, x77, x78, x79, x80, x81, x82, x83, x84, x85, x86, x87, x88, x89, x90, x91, x92, x93, x94, x95, x96, x97, x98, x99, x100, x101, x102, x103, x104, x105, x106, x107, x108, x109, x110, x111], []⟩ W := by
    intro W hb b4 h4 k4
    refine wpAny_ready (rs := [0, 4]) (by kernel_rfl) (by simp) ?_
    refine AllReady.cons ho0 (fun K hK => ?_) (AllReady.cons ho4 (fun K hK => ?_) AllReady.nil)
    · obtain ⟨⟨_, s0, s1, s2, s3, s4, s5, s6⟩, ⟨_, d0, d1, d2, d3, d4, d5, d6⟩⟩ := hR.out W hb
      go_simp
      refine hK _ _ ?_
      exact st025_ W hb b4 h4 k4
    · go_simp
      refine hK _ _ ?_
      exact st245_ (W.alloc (.cells #[.int .i64 0, .slice none 0 0] 24)) (gA hb _) W.heap.size hb.size (heap_alloc_new _ _) b4 h4 (hAn k4) (Nat.ne_of_gt (Array.getElem?_eq_some_iff.1 k4).1)
  have st45_ : ∀ (W : World) (hb : Below w.heap.size w W) (b3 : Nat) (h3 : w.heap.size ≤ b3) (k3 : BxZ W b3) (b4 : Nat) (h4 : w.heap.size ≤ b4) (k4 : BxZ W b4) (hne : b3 ≠ b4), wpAny Tryz.prog .any opsAw3 Q 6 #[false, false, false, false, true, true, false, false] ⟨#[x0, .pointer (some ⟨p1, 0, none⟩), .pointer (some ⟨p2, 0, none⟩), .pointer (some ⟨b3, 0, none⟩), .pointer (some ⟨b4, 0, none⟩), x5, x6, x7, x8, x9, x10, x11, x12, x13, x14, x15, x16, x17, x18, x19, x20, x21, x22, x23, x24, x25, x26, x27, x28, x29, x30, x31, x32, x33, x34, x35, x36, x37, x38, x39, x40, x41, x42, x43, x44, x45, x46, x47, x48, x49, x50, x51, x52, x53, x54, x55, x56, x57, x58, x59, x60, x61, x62, x63, x64, x65, x66, x67, x68, x69, x70, x71, x72, x73, x74, x75, x76, x77, x78, x79, x80, x81, x82, x83, x84, x85, x86, x87, x88, x89, x90, x91, x92, x93, x94, x95, x96, x97, x98, x99, x100, x101, x102, x103, x104, x105, x106, x107, x108, x109, x110, x111], []⟩ W := by
    intro W hb b3 h3 k3 b4 h4 k4 hne
    refine wpAny_ready (rs := [0, 2]) (by kernel_rfl) (by simp) ?_
    refine AllReady.cons ho0 (fun K hK => ?_) (AllReady.cons ho2 (fun K hK => ?_) AllReady.nil)
    · obtain ⟨⟨_, s0, s1, s2, s3, s4, s5, s6⟩, ⟨_, d0, d1, d2, d3, d4, d5, d6⟩⟩ := hR.out W hb
      go_simp
      refine hK _ _ ?_
      exact st045_ W hb b3 h3 k3 b4 h4 k4 hne
    · obtain ⟨⟨_, s0, s1, s2, s3, s4, s5, s6⟩, ⟨_, d0, d1, d2, d3, d4, d5, d6⟩⟩ := hR.out W hb
      go_simp
      refine hK _ _ ?_
      exact st245_ W hb b3 h3 k3 b4 h4 k4 hne
  have st0_ : ∀ (W : World) (hb : Below w.heap.size w W), wpAny Tryz.prog .any opsAw3 Q 7 #[true, false, false, false, false, false, false, false] ⟨#[x0, .pointer (some ⟨p1, 0, none⟩), .pointer (some ⟨p2, 0, none⟩), x3, x4, x5, x6, x7, x8, x9, x10, x11, x12, x13, x14, x15, x16, x17, x18, x19, .agg #[.int .i64 2, .int .i64 3, .int .i64 3, .int .i64 0, .int .i64 0, .int .i64 0, .int .i64 0], x21, x22, x23, x24, x25, x26, x27, x28, x29, x30, x31, x32, x33, x34, x35, x36, x37, x38, x39, x40, x41, x42, x43, x44, x45, x46, x47, x48, x49, x50, x51, x52, x53, x54, x55, x56, x57, x58, x59, x60, x61, x62, x63, x64, x65, x66, x67, x68, x69, x70, x71, x72, x73, x74, x75, x76, x77, x78, x79, x80, x81, x82, x83, x84, x85, x86, x87, x88, x89, x90, x91, x92, x93, x94, x95, x96, x97, x98, x99, x100, x101, x102, x103, x104, x105, x106, x107, x108, x109, x110, x111], []⟩ W := by
    intro W hb
    refine wpAny_ready (rs := [1, 2, 4, 5]) (by kernel_rfl) (by simp) ?_
    refine AllReady.cons ho1 (fun K hK => ?_) (AllReady.cons ho2 (fun K hK => ?_) (AllReady.cons ho4 (fun K hK => ?_) (AllReady.cons ho5 (fun K hK => ?_) AllReady.nil)))
    · go_simp
      go_at_call 28
      (with_reducible refine (HC1.out W).mono ?_)
      rintro e W9 ⟨a5, c5, rfl, hA9, hb9⟩
      dsimp only
      refine hK _ _ ?_
      exact st01_ W9 (gT hb9 hb) a5 c5 hA9
    · obtain ⟨⟨_, s0, s1, s2, s3, s4, s5, s6⟩, ⟨_, d0, d1, d2, d3, d4, d5, d6⟩⟩ := hR.out W hb
      go_simp
      refine hK _ _ ?_
      exact st02_ W hb
    · go_simp
      refine hK _ _ ?_
      exact st04_ (W.alloc (.cells #[.int .i64 0, .slice none 0 0] 24)) (gA hb _) W.heap.size hb.size (heap_alloc_new _ _)
    · go_simp
      refine hK _ _ ?_
      exact st05_ (W.alloc (.cells #[.int .i64 0, .slice none 0 0] 24)) (gA hb _) W.heap.size hb.size (heap_alloc_new _ _)
  have st2_ : ∀ (W : World) (hb : Below w.heap.size w W), wpAny Tryz.prog .any opsAw3 Q 7 #[false, false, true, false, false, false, false, false] ⟨#[x0, .pointer (some ⟨p1, 0, none⟩), .pointer (some ⟨p2, 0, none⟩), x3, x4, x5, x6, x7, x8, x9, x10, x11, x12, x13, x14, x15, x16, x17, x18, x19, x20, x21, .agg #[.int .i64 2, .int .i64 1, .int .i64 2, .int .i64 0, .int .i64 0, .int .i64 0, .int .i64 0], x23, x24, x25, x26, x27, x28, x29, x30, x31, x32, x33, x34, x35, x36, x37, x38, x39, x40, x41, x42, x43, x44, x45, x46, x47, x48, x49, x50, x51, x52, x53, x54, x55, x56, x57, x58, x59, x60, x61, x62, x63, x64, x65, x66, x67, x68, x69, x70, x71, x72, x73, x74, x75, x76, x77, x78, x79, x80, x81, x82, x83, x84, x85, x86, x87, x88, x89, x90, x91, x92, x93, x94, x95, x96, x97, x98, x99, x100, x101, x102, x103, x104, x105, x106, x107, x108, x109, x110, x111], []⟩ W := by
    intro W hb
    refine wpAny_ready (rs := [0, 4, 5]) (by kernel_rfl) (by simp) ?_
    refine AllReady.cons ho0 (fun K hK => ?_) (AllReady.cons ho4 (fun K hK => ?_) (AllReady.cons ho5 (fun K hK => ?_) AllReady.nil))
    · obtain ⟨⟨_, s0, s1, s2, s3, s4, s5, s6⟩, ⟨_, d0, d1, d2, d3, d4, d5, d6⟩⟩ := hR.out W hb
      go_simp
      refine hK _ _ ?_
      exact st02_ W hb
    · go_simp
      refine hK _ _ ?_
      exact st24_ (W.alloc (.cells #[.int .i64 0, .slice none 0 0] 24)) (gA hb _) W.heap.size hb.size (heap_alloc_new _ _)
    · go_simp
      refine hK _ _ ?_
      exact st25_ (W.alloc (.cells #[.int .i64 0, .slice none 0 0] 24)) (gA hb _) W.heap.size hb.size (heap_alloc_new _ _)
  have st4_ : ∀ (W : World) (hb : Below w.heap.size w W) (b3 : Nat) (h3 : w.heap.size ≤ b3) (k3 : BxZ W b3), wpAny Tryz.prog .any opsAw3 Q 7 #[false, false, false, false, true, false, false, false] ⟨#[x0, .pointer (some ⟨p1, 0, none⟩), .pointer (some ⟨p2, 0, none⟩), .pointer (some ⟨b3, 0, none⟩), x4, x5, x6, x7, x8, x9, x10, x11, x12, x13, x14, x15, x16, x17, x18, x19, x20, x21, x22, x23, x24, x25, x26, x27, x28, x29, x30, x31, x32, x33, x34, x35, x36, x37, x38, x39, x40, x41, x42, x43, x44, x45, x46, x47, x48, x49, x50, x51, x52, x53, x54, x55, x56, x57, x58, x59, x60, x61, x62, x63, x64, x65, x66, x67, x68, x69, x70, x71, x72, x73, x74, x75, x76, x77, x78, x79, x80, x81, x82, x83, x84, x85, x86, x87, x88, x89, x90, x91, x92, x93, x94, x95, x96, x97, x98, x99, x100, x101, x102, x103, x104, x105, x106, x107, x108, x109, x110, x111], []⟩ W := by
    intro W hb b3 h3 k3
    refine wpAny_ready (rs := [0, 2, 5]) (by kernel_rfl) (by simp) ?_
    refine AllReady.cons ho0 (fun K hK => ?_) (AllReady.cons ho2 (fun K hK => ?_) (AllReady.cons ho5 (fun K hK => ?_) AllReady.nil))
    · obtain ⟨⟨_, s0, s1, s2, s3, s4, s5, s6⟩, ⟨_, d0, d1, d2, d3, d4, d5, d6⟩⟩ := hR.out W hb
      go_simp
      refine hK _ _ ?_
      exact st04_ W hb b3 h3 k3
    · obtain ⟨⟨_, s0, s1, s2, s3, s4, s5, s6⟩, ⟨_, d0, d1, d2, d3, d4, d5, d6⟩⟩ := hR.out W hb
      go_simp
      refine hK _ _ ?_
      exact st24_ W hb b3 h3 k3
    · go_simp
      refine hK _ _ ?_
      exact st45_ (W.alloc (.cells #[.int .i64 0, .slice none 0 0] 24)) (gA hb _) b3 h3 (hAn k3) W.heap.size hb.size (heap_alloc_new _ _) (Nat.ne_of_lt (Array.getElem?_eq_some_iff.1 k3).1)
  have st5_ : ∀ (W : World) (hb : Below w.heap.size w W) (b4 : Nat) (h4 : w.heap.size ≤ b4) (k4 : BxZ W b4), wpAny Tryz.prog .any opsAw3 Q 7 #[false, false, false, false, false, true, false, false] ⟨#[x0, .pointer (some ⟨p1, 0, none⟩), .pointer (some ⟨p2, 0, none⟩), x3, .pointer (some ⟨b4, 0, none⟩), x5, x6, x7, x8, x9, x10, x11, x12, x13, x14, x15, x16, x17, x18, x19, x20, x21, x22, x23, x24, x25, x26, x27, x28, x29, x30, x31, x32, x33, x34, x35, x36, x37, x38, x39, x40, x41, x42, x43, x44, x45, x46, x47, x48, x49, x50, x51, x52, x53, x54, x55, x56, x57, x58, x59, x60, x61, x62, x63, x64, x65, x66, x67, x68, x69, x70, x71, x72, x73, x74, x75, x76, x77, x78, x79, x80, x81, x82, x83, x84, x85, x86, x87, x88, x89, x90, x91, x92, x93, x94, x95, x96, x97, x98, x99, x100, x101, x102, x103, x104, x105, x106, x107, x108, x109, x110, x111], []⟩ W := by
    intro W hb b4 h4 k4
    refine wpAny_ready (rs := [0, 2, 4]) (by kernel_rfl) (by simp) ?_
    refine AllReady.cons ho0 (fun K hK => ?_) (AllReady.cons ho2 (fun K hK => ?_) (AllReady.cons ho4 (fun K hK => ?_) AllReady.nil))
    · obtain ⟨⟨_, s0, s1, s2, s3, s4, s5, s6⟩, ⟨_, d0, d1, d2, d3, d4, d5, d6⟩⟩ := hR.out W hb
      go_simp
      refine hK _ _ ?_
      exact st05_ W hb b4 h4 k4
    · obtain ⟨⟨_, s0, s1, s2, s3, s4, s5, s6⟩, ⟨_, d0, d1, d2, d3, d4, d5, d6⟩⟩ := hR.out W hb
      go_simp
      refine hK _ _ ?_
      exact st25_ W hb b4 h4 k4
    · go_simp
      refine hK _ _ ?_
      exact st45_ (W.alloc (.cells #[.int .i64 0, .slice none 0 0] 24)) (gA hb _) W.heap.size hb.size (heap_alloc_new _ _) b4 h4 (hAn k4) (Nat.ne_of_gt (Array.getElem?_eq_some_iff.1 k4).1)
  have st_ : ∀ (W : World) (hb : Below w.heap.size w W), wpAny Tryz.prog .any opsAw3 Q 8 #[false, false, false, false, false, false, false, false] ⟨#[x0, .pointer (some ⟨p1, 0, none⟩), .pointer (some ⟨p2, 0, none⟩), x3, x4, x5, x6, x7, x8, x9, x10, x11, x12, x13, x14, x15, x16, x17, x18, x19, x20, x21, x22, x23, x24, x25, x26, x27, x28, x29, x30, x31, x32, x33, x34, x35, x36, x37, x38, x39, x40, x41, x42, x43, x44, x45, x46, x47, x48, x49, x50, x51, x52, x53, x54, x55, x56, x57, x58, x59, x60, x61, x62, x63, x64, x65, x66, x67, x68, x69, x70, x71, x72, x73, x74, x75, x76, x77, x78, x79, x80, x81, x82, x83, x84, x85, x86, x87, x88, x89, x90, x91, x92, x93, x94, x95, x96, x97, x98, x99, x100, x101, x102, x103, x104, x105, x106, x107, x108, x109, x110, x111], []⟩ W := by
    intro W hb
    refine wpAny_ready (rs := [0, 2, 4, 5]) (by kernel_rfl) (by simp) ?_
    refine AllReady.cons ho0 (fun K hK => ?_) (AllReady.cons ho2 (fun K hK => ?_) (AllReady.cons ho4 (fun K hK => ?_) (AllReady.cons ho5 (fun K hK => ?_) AllReady.nil)))
    · obtain ⟨⟨_, s0, s1, s2, s3, s4, s5, s6⟩, ⟨_, d0, d1, d2, d3, d4, d5, d6⟩⟩ := hR.out W hb
      go_simp
      refine hK _ _ ?_
      exact st0_ W hb
    · obtain ⟨⟨_, s0, s1, s2, s3, s4, s5, s6⟩, ⟨_, d0, d1, d2, d3, d4, d5, d6⟩⟩ := hR.out W hb
      go_simp
      refine hK _ _ ?_
      exact st2_ W hb
    · go_simp
      refine hK _ _ ?_
      exact st4_ (W.alloc (.cells #[.int .i64 0, .slice none 0 0] 24)) (gA hb _) W.heap.size hb.size (heap_alloc_new _ _)
    · go_simp
      refine hK _ _ ?_
      exact st5_ (W.alloc (.cells #[.int .i64 0, .slice none 0 0] 24)) (gA hb _) W.heap.size hb.size (heap_alloc_new _ _)
  exact st_ _ (below_drewN (Below.refl _ w) 1)
end Go.Proofs.YtiiiegflobihjaaGreat
