/- Texts of this claim, put together: CH2 DF DG. -/
import Derived.Test.YtiiiegflobihjaaGreatKAWt
import Derived.Test.YtiiiegflobihjaaGreatKAWl
import Derived.Test.YtiiiegflobihjaaGreatKAWm
import Derived.Test.YtiiiegflobihjaaGreatKAWu
import Derived.Test.YtiiiegflobihjaaGreatKAWv
import Derived.Lib.ConvBytes

/- combine.rounds with combine.sequel$1. -/
namespace Go.Proofs.YtiiiegflobihjaaGreat
open Go.RowKit

theorem bit_or : ∀ a b : Fin 32, bits .or .i64 ((a.val : Nat) : Int) ((b.val : Nat) : Int) = orI ((a.val : Nat) : Int) ((b.val : Nat) : Int) := by decide +kernel
theorem bit_orI {a b : Int} (ha : 0 ≤ a ∧ a ≤ 31) (hb : 0 ≤ b ∧ b ≤ 31) : bits .or .i64 a b = orI a b := by
  have h := bit_or ⟨a.toNat, by omega⟩ ⟨b.toNat, by omega⟩
  rwa [show ((a.toNat : Nat) : Int) = a by omega, show ((b.toNat : Nat) : Int) = b by omega] at h
set_option maxRecDepth 100000 in
set_option maxHeartbeats 1600000 in
theorem uniteRd {w : World} {bF : Nat} {f : Int} {t : TypeId} (kF : w.heap[bF]? = some (.cells #[.int .i64 f] t)) (hf : 0 ≤ f ∧ f ≤ 31) (r0 r1 r2 r3 r4 r5 : Int) {r6 : Int} (h6 : 0 ≤ r6 ∧ r6 ≤ 31) :
    Calls Tryz.prog 78 #[.agg #[.int .i64 r0, .int .i64 r1, .int .i64 r2, .int .i64 r3, .int .i64 r4, .int .i64 r5, .int .i64 r6], .pointer (some ⟨bF, 0, none⟩)] w fun e w' => e = .returned (.agg #[.int .i64 r0, .int .i64 r1, .int .i64 r2, .int .i64 r3, .int .i64 r4, .int .i64 r5, .int .i64 (orI r6 f)]) ∧ Below w.heap.size w w' := by
  have hbit := bit_orI h6 hf
  obtain ⟨q, hq⟩ : ∃ q, orI r6 f = q := ⟨_, rfl⟩
  rw [hq] at hbit ⊢
  replace hq := Lib.hid hq
  obtain ⟨W1, hW1⟩ : ∃ W1, W1 = (w.alloc (.cells #[.int .i64 r0, .int .i64 r1, .int .i64 r2, .int .i64 r3, .int .i64 r4, .int .i64 r5, .int .i64 r6] 51)).alloc (.cells #[.int .i64 0, .int .i64 0, .int .i64 0, .int .i64 0, .int .i64 0, .int .i64 0, .int .i64 0] 51) := ⟨_, rfl⟩
  have hb1 : Below w.heap.size w W1 := by rw [hW1]; exact ((Below.refl _ w).alloc (Nat.le_refl _) _).alloc (by simp) _
  have e0 := cell_kept hb1 (show w.cell? ⟨bF, 0, none⟩ = some (.int .i64 f) from box_cell (j := 0) kF rfl)
  rw [hW1] at e0
  clear kF hb1
  replace hW1 := Lib.hid hW1
  go_enter Tryz.func78, Tryz.ntmps78
  go_wp2_with fail
  refine bodyPost_ret (v := .agg #[.int .i64 r0, .int .i64 r1, .int .i64 r2, .int .i64 r3, .int .i64 r4, .int .i64 r5, .int .i64 q]) (by simp [results, Tryz.results78, go_sem]) rfl ⟨rfl, ?_⟩
  exact ((Below.refl _ w).alloc (Nat.le_refl _) _).alloc (by simp) _

set_option maxRecDepth 100000 in
set_option maxHeartbeats 3200000 in
theorem roundsUnite {w : World} {u : Value} {ms : List (List Int)} {bF : Nat} {f : Int} {tF : TypeId} (kF : w.heap[bF]? = some (.cells #[.int .i64 f] tF)) (hf : 0 ≤ f ∧ f ≤ 31) (h31 : ∀ m ∈ ms, ∀ x ∈ rdOf m, 0 ≤ x ∧ x ≤ 31) (hK : KS 8 w u ms) (h0 : 0 < ms.length) (hl : ms.length ≤ 1000) :
    Calls Tryz.prog 65 #[u, .func (.func 78) #[] #[.pointer (some ⟨bF, 0, none⟩)]] w fun e w' => ∃ v, e = .returned v ∧ OwX 51 7 EI w' w.heap.size v (lets (ms.map (unM f))).length (lets (ms.map (unM f))) ∧ Below w.heap.size w w' := by
  obtain ⟨a, c, b, off, rfl, hae, hc, _⟩ := hK
  obtain rfl := hae h0
  have hcm := Lib.hid (fun W (hb : Below w.heap.size w W) j (hj : j < ms.length) => And.intro (hc j hj).1 ((hc j hj).2.keep hb))
  have hFb := Lib.hid (fun W (hb : Below w.heap.size w W) => (hb.block _ (Array.getElem?_eq_some_iff.1 kF).1).trans kF)
  have h31 := Lib.hid (fun j (hj : j < ms.length) => show ∀ x ∈ rdOf (ms.getD j []), 0 ≤ x ∧ x ≤ 31 from by rw [getD_eq hj]; exact h31 _ (List.getElem_mem hj))
  have hO0 : OwX 51 7 EI w w.heap.size (.slice none 0 0) 0 ((ms.map (unM f)).take 0) := OwX.nil _ _
  have hmg : Hid (∀ j, j < ms.length → (ms.map (unM f)).take (j + 1) = (ms.map (unM f)).take j ++ [(unM f) (ms.getD j [])]) := fun j hj => by
    rw [take_snoc (by rw [List.length_map]; exact hj) ([] : List Int), getD_eq (by rw [List.length_map]; exact hj), List.getElem_map, getD_eq hj]
  have hml : (ms.map (unM f)).length = ms.length := List.length_map ..
  obtain ⟨L, hL⟩ : ∃ L, ms.map (unM f) = L := ⟨_, rfl⟩
  rw [hL] at hO0 hmg hml ⊢
  replace hml := Lib.hid hml
  replace hL := Lib.hid hL
  clear hc hae
  go_enter Tryz.func65, Tryz.ntmps65
  go_wp2_with fail
  go_loopw [5, 10] (fun ov jv wr => ∃ j : Nat, jv = .int .i64 j ∧ j ≤ ms.length ∧ OwX 51 7 EI wr w.heap.size ov j (L.take j) ∧ Below w.heap.size w wr) (fun _ jv _ => ms.length - (intOf jv).toNat)
  case atStart => exact ⟨0, rfl, by omega, hO0, Below.refl _ _⟩
  case round =>
    clear hO0
    obtain ⟨j, rfl, hj, hO, hbr⟩ := hrel
    obtain ⟨oa, oc, hov⟩ := hO.shape
    subst hov
    by_cases hlt : j < ms.length
    · have hji : (j : Int) < (ms.length : Int) := by omega
      obtain ⟨hm8, hmc⟩ := hcm.out wr hbr j hlt
      have hsn := hmg.out j hlt
      obtain ⟨m, hm⟩ : ∃ m, ms.getD j [] = m := ⟨_, rfl⟩
      rw [hm] at hm8 hmc hsn
      obtain ⟨m0, m1, m2, m3, m4, m5, m6, m7, rfl⟩ := eight hm8
      obtain ⟨c0, c1, c2, c3, c4, c5, c6, c7⟩ := hmc.all8
      obtain ⟨Wb, hWb⟩ : ∃ Wb, Wb = wr.alloc (.cells #[.int .i64 m0, .int .i64 m1, .int .i64 m2, .int .i64 m3, .int .i64 m4, .int .i64 m5, .int .i64 m6, .int .i64 m7] 58) := ⟨_, rfl⟩
      have hbb : Below wr.heap.size wr Wb := by rw [hWb]; exact (Below.refl _ _).alloc (Nat.le_refl _) _
      have hbrb := bt hbr hbb hbr.size
      have hOb := hO.keep (EI.stab _) hbb
      have hj9 : j ≤ 1000000000000 := by omega
      have hsn : Hid (L.take (j + 1) = L.take j ++ [[m0, m1, m2, m3, m4, m5, orI m6 f]]) := hsn
      have h36 := h31.out j hlt
      rw [hm] at h36
      have HC := Lib.hid (uniteRd (hFb.out Wb hbrb) hf m0 m1 m2 m3 m4 m5 (h36 m6 (by simp [rdOf])))
      replace h36 := Lib.hid h36
      replace hm := Lib.hid hm
      clear hmc hm8 hO
      go_wp2_with fail
      rw [← hWb]
      replace hWb := Lib.hid hWb
      refine HC.out.mono ?_
      rintro e w1 ⟨rfl, hb1⟩
      have hb01 := bt hbrb hb1 hbrb.size
      have hO1 := hOb.keep (EI.stab _) hb1
      have hB1 : w.heap.size ≤ w1.heap.size := hb01.size
      have hEI : EI w1 [.int .i64 m0, .int .i64 m1, .int .i64 m2, .int .i64 m3, .int .i64 m4, .int .i64 m5, .int .i64 (orI m6 f)] [m0, m1, m2, m3, m4, m5, orI m6 f] := rfl
      have hc7 : ∀ u ∈ (#[.int .i64 m0, .int .i64 m1, .int .i64 m2, .int .i64 m3, .int .i64 m4, .int .i64 m5, .int .i64 (orI m6 f)] : Array Value).toList, u.oneCell' = true := fun u hu => by
        simp only [List.mem_cons, List.not_mem_nil, or_false] at hu
        rcases hu with rfl | rfl | rfl | rfl | rfl | rfl | rfl <;> rfl
      replace hEI := Lib.hid hEI
      replace hc7 := Lib.hid hc7
      go_wp2_with (at_builtin; refine wpAppX (x := [m0, m1, m2, m3, m4, m5, orI m6 f]) elemRd (by decide) (by decide) (EI.stab _) rfl _ _ rfl rfl hO1 rfl rfl rfl hc7.out hEI.out hj9 hB1 ?_)
      intro v2 w2 ho2 hg2 hb2 hx2
      rw [← hsn.out] at ho2
      have hbf := hb01.trans hb2
      go_wp2
      go_roundw
      case rel => exact ⟨j + 1, by go_num, hlt, ho2, hbf⟩
      case measure => simp [intOf]; omega
    · obtain rfl : j = ms.length := by omega
      have hge : ¬ ((ms.length : Int) < (ms.length : Int)) := by omega
      rw [show L.take ms.length = L by rw [← hml.out, List.take_length]] at hO
      obtain ⟨g, cap, hve, hgB⟩ := hO.form h0
      obtain ⟨rfl, rfl⟩ : oa = some ⟨g, 0, none⟩ ∧ cap = oc := by injection hve with h1 h2 h3; exact ⟨h1, h3.symm⟩
      have HS := Lib.hid (sortRds hO (by omega))
      clear hve hO
      go_wp2_with fail
      refine HS.out.mono ?_
      rintro e w1 ⟨rfl, ys, hp, hs, hy, hb1, _⟩
      have HC := Lib.hid (compactRd hy (by omega))
      rw [cmpc_lets hp hs] at HC
      have hb01 := hbr.trans hb1
      replace hp := Lib.hid hp
      replace hs := Lib.hid hs
      clear hy
      go_wp2_with fail
      refine HC.out.mono ?_
      rintro e w2 ⟨k, rfl, hz, hb2, _⟩
      have hlz := hz.length
      subst hlz
      have hb02 := hb01.trans hb2
      replace hz := Lib.hid hz
      go_wp2
      go_ret
      exact ⟨_, rfl, hz.out, hb02⟩
end Go.Proofs.YtiiiegflobihjaaGreat

/- combine.sequel: the table of its rows, as the walk needs it. -/
namespace Go.Proofs.YtiiiegflobihjaaGreat
open Go.RowKit Go.ChangeMaps Go.MapKept Go.WideMaps

theorem umRowT : Tryz.prog.underlying 123 = some (.map 51 78) := by kernel_rfl
theorem zRow : ∀ w : World, (zeroValue 78).run Tryz.prog w = .ok (.slice none 0 0) w := fun w => by kernel_rfl
/-- The table of rows lies in block b. -/
def TabM (w : World) (b B : Nat) (f : Int) (ms : List (List Int)) : Prop := ∃ m, MS rdV w b m ∧ (∀ p ∈ m, WfR p.1) ∧ RowT w B f ms m
theorem TabM.keep {w w' : World} {b B : Nat} {f : Int} {ms : List (List Int)} (h : TabM w b B f ms) (hb : Below w.heap.size w w') : TabM w' b B f ms := by
  obtain ⟨m, h1, h2, h3⟩ := h; exact ⟨m, h1.keep (hb.block _ h1.lt), h2, h3.keep hb⟩
theorem OI.notMap {w : World} {b B n : Nat} {v : Value} {xs : List Int} {es : Array MapEntry} {c : Nat} (h : OI w B v n xs) (hb : w.heap[b]? = some (.map es c)) : v.ownBlock ≠ some b := fun e => by
  obtain ⟨cs, hc⟩ := ownsRow_ty h b e
  rw [hb] at hc; cases hc
/-- An entry is read, and stored when its row has grown. -/
theorem TabM.entry {w : World} {b B : Nat} {f : Int} {ms : List (List Int)} {a : List Int} (h : TabM w b B f ms) (hw : WfR (unM f a)) :
    ∃ (v0 : Value) (st : Nat) (es1 : Array MapEntry) (c1 : Nat), (Instr.mapEntry 123 (.map (some b)) (rdV (unM f a))).run Tryz.prog w = .ok (.tuple #[v0, goInt st]) (setBlock w b (.map es1 c1)) ∧
      (∃ es c, w.heap[b]? = some (.map es c)) ∧ OI (setBlock w b (.map es1 c1)) B v0 (thTo f ms (unM f a)).length (natI (thTo f ms (unM f a))) ∧
      ∀ (w2 : World) (v' : Value), (setBlock w b (.map es1 c1)).grownBy w2 v0.ownBlock → NewAt (setBlock w b (.map es1 c1)) v0 v' → OI w2 B v' ((thTo f ms (unM f a)).length + 1) (natI (thTo f ms (unM f a)) ++ [(mvTo a : Int)]) →
        ∃ es2 c2, (Instr.entryStore 123 (.map (some b)) (goInt st) v').run Tryz.prog w2 = .ok () (setBlock w2 b (.map es2 c2)) ∧ (∃ es c, w2.heap[b]? = some (.map es c)) ∧ TabM (setBlock w2 b (.map es2 c2)) b B f (ms ++ [a]) := by
  obtain ⟨m, hM, hWf, hT⟩ := h
  obtain ⟨v0, st, es1, c1, hrun, hcase⟩ := MS.entry keyX_round umRowT zRow hM hWf hw
  obtain ⟨es0, cl0, hb0, _⟩ := id hM
  have hx1 : KeepX 58 w (setBlock w b (.map es1 c1)) := keepX_map hb0 _
  have hT1 := hT.other (by decide) hx1
  have hb1 : (setBlock w b (.map es1 c1)).heap[b]? = some (.map es1 c1) := heap_setBlock_same hb0 _
  rcases hcase with ⟨h1, rfl, h3⟩ | ⟨j, h1, h3⟩
  · have hnil : thTo f ms (unM f a) = [] := thTo_none (fun x hxm e => h1 (e ▸ hT.has x hxm))
    refine ⟨_, st, es1, c1, hrun, ⟨_, _, hb0⟩, ?_, ?_⟩
    · rw [hnil]; exact OI.nil _ _
    · rw [hnil]
      intro w2 v' hg hn hv
      have hb2 : w2.heap[b]? = some (.map es1 c1) := (hg.block b (Array.getElem?_eq_some_iff.1 hb1).1 (by simp [Value.ownBlock])).trans hb1
      obtain ⟨es2, c2, hr2, hM2⟩ := h3 w2 v' hb2
      refine ⟨es2, c2, hr2, ⟨_, _, hb2⟩, _, hM2, fun p hp => ?_, (hT1.new h1 hg hn hv).other (E := 58) (by decide) (keepX_map hb2 _)⟩
      rcases List.mem_append.1 hp with hp | hp
      · exact hWf p hp
      · obtain rfl := List.mem_singleton.1 hp; exact hw
  · have hrow := (hT1.row j _ h1).2
    refine ⟨v0, st, es1, c1, hrun, ⟨_, _, hb0⟩, hrow, ?_⟩
    intro w2 v' hg hn hv
    have hb2 : w2.heap[b]? = some (.map es1 c1) := (hg.block b (Array.getElem?_eq_some_iff.1 hb1).1 (fun e => hrow.notMap hb1 e.symm)).trans hb1
    obtain ⟨es2, c2, hr2, hM2⟩ := h3 w2 v' hb2
    refine ⟨es2, c2, hr2, ⟨_, _, hb2⟩, _, hM2, fun p hp => ?_, (hT1.old h1 hg hn hv).other (E := 58) (by decide) (keepX_map hb2 _)⟩
    rcases List.mem_or_eq_of_mem_set hp with hp | rfl
    · exact hWf p hp
    · exact hw
theorem TabM.move {w w' : World} {b B : Nat} {f : Int} {ms : List (List Int)} (h : TabM w b B f ms) (hbB : b < B) (hb : Below B w w') (hx : KeepX 58 w w') : TabM w' b B f ms := by
  obtain ⟨m, h1, h2, h3⟩ := h; exact ⟨m, h1.keep (hb.block _ hbB), h2, h3.other (by decide) hx⟩
theorem Only.setBlock {A B : World} {b : Nat} (h : Only (fun k => k = b) A B) (o : Obj) : Only (fun k => k = b) A (setBlock B b o) :=
  ⟨h.os, h.tape, h.output, by simpa [Go.ChangeMaps.setBlock] using h.size, fun i hi hd => (setBlock_keep o hd).trans (h.same i hi hd)⟩
/-- The rows that are still to be read. -/
def RowsL (w : World) (B : Nat) (f : Int) (ms : List (List Int)) (m : List (List Int × Value)) (R : List (List Int)) : Prop := ∀ (i : Nat) (p : List Int × Value), m[i]? = some p → p.1 ∈ R → OI w B p.2 (thTo f ms p.1).length (natI (thTo f ms p.1))
theorem RowsL.keep {w w' : World} {B : Nat} {f : Int} {ms : List (List Int)} {m : List (List Int × Value)} {R : List (List Int)} (h : RowsL w B f ms m R) (hb : Below w.heap.size w w') : RowsL w' B f ms m R := fun i p hp hR => (h i p hp hR).keep hb
theorem RowsL.other {E : TypeId} {w w' : World} {B : Nat} {f : Int} {ms : List (List Int)} {m : List (List Int × Value)} {R : List (List Int)} (h : RowsL w B f ms m R) (hne : 3 ≠ E) (hx : KeepX E w w') : RowsL w' B f ms m R := fun i p hp hR => (h i p hp hR).other hne hx
theorem RowsL.next {w w' : World} {B : Nat} {f : Int} {ms : List (List Int)} {m : List (List Int × Value)} {R : List (List Int)} {r : List Int} {i0 : Nat} {v : Value} (h : RowsL w B f ms m (r :: R)) (hnd : r ∉ R)
    (hap : ∀ (i j : Nat) (p q : List Int × Value), i ≠ j → m[i]? = some p → m[j]? = some q → Apart p.2 q.2) (hi : m[i0]? = some (r, v)) (hg : w.grownBy w' v.ownBlock) : RowsL w' B f ms m R := fun i p hp hR => by
  refine (h i p hp (List.mem_cons_of_mem _ hR)).kept hg (Apart.ne (hap i i0 p _ (fun e => ?_) hp hi))
  subst e
  rw [hp] at hi
  injection hi with hi
  subst hi
  exact hnd hR
end Go.Proofs.YtiiiegflobihjaaGreat

/- combine.sequel: the moves of a set of states of the second adversary. -/
namespace Go.Proofs.YtiiiegflobihjaaGreat
open Go.RowKit Go.ChangeMaps Go.MapKept Go.WideMaps

theorem thMs_snoc {bz : List (List (List Int))} {set : List Nat} {i : Nat} (h : i < set.length) {s : Nat} (hs : set.getD i 0 = s) : thMs bz (set.take (i + 1)) = thMs bz (set.take i) ++ bz.getD s [] := by
  rw [take_snoc h 0, hs, thMs, List.flatMap_append]; simp [thMs]
theorem thMs_take {bz : List (List (List Int))} {set : List Nat} {i j : Nat} (h : i < set.length) {s : Nat} (hs : set.getD i 0 = s) : ∀ m ∈ thMs bz (set.take i) ++ (bz.getD s []).take j, m ∈ thMs bz set := fun m hm => by
  have h1 : m ∈ thMs bz (set.take (i + 1)) := by
    rw [thMs_snoc h hs]
    rcases List.mem_append.1 hm with hm | hm
    · exact List.mem_append_left _ hm
    · exact List.mem_append_right _ (List.mem_of_mem_take hm)
  obtain ⟨x, hx, hmx⟩ := List.mem_flatMap.1 h1
  exact List.mem_flatMap.2 ⟨x, List.mem_of_mem_take hx, hmx⟩
theorem kep9 {a b c d e f g h i : Prop} (k : a ∧ b ∧ c ∧ d ∧ e ∧ f ∧ g ∧ h ∧ i) : a ∧ b ∧ c ∧ d ∧ e ∧ f ∧ g ∧ h ∧ i := k
/-- What stands in the loops over the moves. -/
def InvS (W3 : World) (bm : Nat) (f : Int) (ms : List (List Int)) (mv : Value) (wr : World) : Prop :=
  OwX 58 8 EI wr W3.heap.size mv ms.length ms ∧ TabM wr bm W3.heap.size f ms ∧ Only (fun k => k = bm) W3 wr
theorem wfR31 {r : List Int} (h7 : r.length = 7) (h : ∀ x ∈ r, 0 ≤ x ∧ x ≤ 31) : WfR r := ⟨h7, fun x hx => by have := h x hx; omega⟩

set_option maxRecDepth 100000 in
set_option maxHeartbeats 6400000 in
theorem sequelC {w : World} {u : Value} {n : Int} {bz : List (List (List Int))} (hA : AdvV w u n bz) (sB : AdS bz) {k f : Int} (hf : 0 ≤ f ∧ f ≤ 31) {set : List Nat} (h0 : set ≠ []) (hl : set.length ≤ 8) (hs : ∀ s ∈ set, s < bz.length) :
    Calls Tryz.prog 43 #[u, .int .i64 k, .int .i64 f, .string (bsN set)] w (ArOut w (thSq bz k f set)) := by
  have hmm := @run_makeMap Tryz.prog
  obtain ⟨sv, rfl, sa, sc, sb, so, rfl, hsa, hsc, hs0⟩ := hA
  have hbp := sB.ok.pos
  obtain rfl := hsa (by omega)
  have hb8 := sB.len
  have hall := thMs_all sB set
  have h320 : (thMs bz set).length ≤ 320 := by have := thMs_len sB set; omega
  have hFpos := thMs_pos sB h0 hs
  have hbsz := bsN_size set
  obtain ⟨bs, hbs⟩ : ∃ bs, bsN set = bs := ⟨_, rfl⟩
  rw [hbs] at hbsz ⊢
  obtain ⟨N, hN⟩ : ∃ N, bz.length = N := ⟨_, rfl⟩
  rw [hN] at hs0 hbp hb8 ⊢
  obtain ⟨W1, hW1⟩ : ∃ W1, W1 = (w.alloc (.cells #[.int .i64 n, .slice (some ⟨sb, so, none⟩) N sc] 24)).alloc (.cells #[.int .i64 f] 3) := ⟨_, rfl⟩
  obtain ⟨W2, hW2⟩ : ∃ W2, W2 = W1.alloc (.map #[] 0) := ⟨_, rfl⟩
  obtain ⟨W3, hW3⟩ : ∃ W3, W3 = Lib.bytesWorld W2 5 bs := ⟨_, rfl⟩
  have hz1 : W1.heap.size = w.heap.size + 1 + 1 := by rw [hW1]; simp
  have hz2 : W2.heap.size = w.heap.size + 1 + 1 + 1 := by rw [hW2, World.size_alloc, hz1]
  have hz3 : W3.heap.size = w.heap.size + 1 + 1 + 1 + 1 := by rw [hW3, Lib.bytesWorld_size, hz2]
  have hb1 : Below w.heap.size w W1 := by rw [hW1]; exact ((Below.refl _ w).alloc (Nat.le_refl _) _).alloc (by simp) _
  have hb2 : Below w.heap.size w W2 := by rw [hW2]; exact hb1.alloc hb1.size _
  have hb3' : Below W2.heap.size W2 W3 := by rw [hW3]; exact ⟨rfl, rfl, rfl, by rw [Lib.bytesWorld_size]; omega, fun k hk => Lib.bytesWorld_at_old W2 _ bs k hk⟩
  have hb3 := bt hb2 hb3' hb2.size
  have kA1 : W1.heap[w.heap.size]? = some (.cells #[.int .i64 n, .slice (some ⟨sb, so, none⟩) N sc] 24) := by rw [hW1]; exact (Below.heap_alloc _ _ _ (by simp)).trans (heap_alloc_new _ _)
  have kF1 : W1.heap[w.heap.size + 1]? = some (.cells #[.int .i64 f] 3) := by
    rw [hW1]
    have := heap_alloc_new (w.alloc (.cells #[.int .i64 n, .slice (some ⟨sb, so, none⟩) N sc] 24)) (.cells #[.int .i64 f] 3)
    rwa [World.size_alloc] at this
  have hM2 : MS rdV W2 (w.heap.size + 1 + 1) [] := by rw [← hz1, hW2]; exact MS.made W1
  have hM3 : MS rdV W3 (w.heap.size + 1 + 1) [] := hM2.keep (hb3'.block _ (by omega))
  have kA3 : W3.heap[w.heap.size]? = some (.cells #[.int .i64 n, .slice (some ⟨sb, so, none⟩) N sc] 24) := (hb3'.block _ (by omega)).trans (by rw [hW2]; exact (Below.heap_alloc _ _ _ (by omega)).trans kA1)
  have kF3 : W3.heap[w.heap.size + 1]? = some (.cells #[.int .i64 f] 3) := (hb3'.block _ (by omega)).trans (by rw [hW2]; exact (Below.heap_alloc _ _ _ (by omega)).trans kF1)
  have kB3 : ∀ i, i < set.length → W3.cell? ⟨w.heap.size + 1 + 1 + 1, i, none⟩ = some (.int .u8 ((set.getD i 0 : Nat) : Int)) := fun i hi => by
    have hlt := hs _ (List.getElem_mem hi)
    have hb8' := sB.len
    have h := Lib.bytesWorld_cell W2 5 bs i (by omega)
    rw [hz2] at h
    rw [hW3, h, ← hbs, bsN_toList, List.getD_eq_getElem?_getD, List.getElem?_map, List.getElem?_eq_getElem hi, getD_eq hi]
    simp only [Option.map_some, Option.getD_some, UInt8.toNat_ofNat']
    rw [Nat.mod_eq_of_lt (by omega)]
  have hI0 : InvS W3 (w.heap.size + 1 + 1) f (thMs bz (set.take 0)) (.slice none 0 0) W3 := ⟨OwX.nil _ _, ⟨[], hM3, by simp, RowT.nil _ _ _⟩, Only.refl _ _⟩
  have hcv : (convert 9 121 (.string bs)).run Tryz.prog W2 = .ok (.slice (some ⟨W2.heap.size, 0, none⟩) bs.size (grownCap W2 bs.size 0 5)) W3 := by
    rw [hW3]; exact Lib.run_convert_string_bytes W2 9 121 5 bs und_str (by kernel_rfl) (by kernel_rfl)
  rw [hz2, hbsz] at hcv
  obtain ⟨cp, hcp⟩ : ∃ cp, grownCap W2 set.length 0 5 = cp := ⟨_, rfl⟩
  rw [hcp, hW2, hW1] at hcv
  have hfr := Lib.hid (fun wr (ho : Only (fun k => k = w.heap.size + 1 + 1) W3 wr) => (show wr.heap[w.heap.size]? = some (.cells #[.int .i64 n, .slice (some ⟨sb, so, none⟩) N sc] 24) ∧ wr.heap[w.heap.size + 1]? = some (.cells #[.int .i64 f] 3) ∧
      (∀ i, i < set.length → wr.cell? ⟨w.heap.size + 1 + 1 + 1, i, none⟩ = some (.int .u8 ((set.getD i 0 : Nat) : Int))) ∧ Below w.heap.size w wr from by
    have hbw : Below w.heap.size w wr := hb3.trans (ho.below (n := w.heap.size) (by omega) (fun k hk => by omega))
    exact ⟨(ho.same _ (by omega) (by omega)).trans kA3, (ho.same _ (by omega) (by omega)).trans kF3, fun i hi => ho.cell (by simp) (kB3 i hi), hbw⟩))
  have hscw := Lib.hid (fun s (h : s < N) => hsc s (by omega))
  replace hN := Lib.hid hN
  replace hbs := Lib.hid hbs
  replace hcp := Lib.hid hcp
  replace hz1 := Lib.hid hz1
  replace hz2 := Lib.hid hz2
  replace hall := Lib.hid hall
  replace hs := Lib.hid hs
  clear hb1 hb2 hb3' hb3 kA1 kF1 hM2 hM3 kA3 kF3 kB3 hsc hsa
  go_enter Tryz.func43, Tryz.ntmps43
  go_wp2_with fail
  rw [← hW1, ← hW2, ← hW3]
  replace hW1 := Lib.hid hW1
  replace hW2 := Lib.hid hW2
  replace hW3 := Lib.hid hW3
  replace hz3 := Lib.hid hz3
  replace hbsz := Lib.hid hbsz
  clear hcv hmm
  go_loopw [11, 25] (fun mv iv wr => ∃ i : Nat, iv = .int .i64 i ∧ i ≤ set.length ∧ InvS W3 (w.heap.size + 1 + 1) f (thMs bz (set.take i)) mv wr) (fun _ iv _ => set.length - (intOf iv).toNat)
  case atStart => exact ⟨0, rfl, by omega, hI0⟩
  case round =>
    clear hI0
    obtain ⟨i, rfl, hi, hI⟩ := hrel
    obtain ⟨wo, hwo⟩ : ∃ wo, wo = wr := ⟨_, rfl⟩
    subst hwo
    by_cases hlt : i < set.length
    · have hii : (i : Int) < (set.length : Int) := by omega
      have hP320 : (thMs bz (set.take i)).length ≤ 320 := by have := thMs_len sB (set.take i); rw [List.length_take] at this; omega
      obtain ⟨kA, kF, hby, hbw⟩ := hfr.out wo hI.2.2
      have c0 := hby i hlt
      have hstp := Lib.hid (thMs_snoc (bz := bz) hlt rfl)
      have hsub := Lib.hid (fun j => thMs_take (bz := bz) (j := j) hlt rfl)
      have hsN : set.getD i 0 < N := by rw [← hN.out, getD_eq hlt]; exact hs.out _ (List.getElem_mem hlt)
      have hx40 := (sB.all (set.getD i 0)).1
      obtain ⟨s, hse⟩ : ∃ s, set.getD i 0 = s := ⟨_, rfl⟩
      rw [hse] at c0 hstp hsub hsN hx40
      replace hse := Lib.hid hse
      obtain ⟨us, hus, hks⟩ := hscw.out s hsN
      obtain ⟨x, hx⟩ : ∃ x, bz.getD s [] = x := ⟨_, rfl⟩
      rw [hx] at hks hstp hsub hx40
      replace hx := Lib.hid hx
      obtain ⟨xa, xc, xb, xo, rfl, hxa, hxc, _⟩ := hks
      have a1 := box_cell (j := 1) kA rfl
      have hsi : (s : Int) < (N : Int) := by omega
      obtain ⟨P0, hP0⟩ : ∃ P0, thMs bz (set.take i) = P0 := ⟨_, rfl⟩
      rw [hP0] at hI hstp hsub hP320
      replace hP0 := Lib.hid hP0
      obtain ⟨hO, hTb, hOn⟩ := hI
      obtain ⟨oa, oc, hov⟩ := hO.shape
      subst hov
      have hI0 : InvS W3 (w.heap.size + 1 + 1) f (P0 ++ x.take 0) (.slice oa P0.length oc) wo := by rw [List.take_zero, List.append_nil]; exact ⟨hO, hTb, hOn⟩
      have e0 := cell_kept hbw hus
      have h320' := Lib.hid h320
      clear hus hO hTb kA hby
      go_wp2_with fail
      obtain ⟨hOno, hbwo⟩ : Only (fun k => k = w.heap.size + 1 + 1) W3 wo ∧ Below w.heap.size w wo := ⟨hOn, hbw⟩
      clear hOn hbw e0 a1 c0
      go_loopw [11, 35] (fun mv jv wr => ∃ j : Nat, jv = .int .i64 j ∧ j ≤ x.length ∧ InvS W3 (w.heap.size + 1 + 1) f (P0 ++ x.take j) mv wr) (fun _ jv _ => x.length - (intOf jv).toNat)
      case atStart => exact ⟨0, rfl, by omega, hI0⟩
      case round =>
        clear hI0
        obtain ⟨j, rfl, hj, hI⟩ := hrel
        obtain ⟨P1, hP1⟩ : ∃ P1, P0 ++ x.take j = P1 := ⟨_, rfl⟩
        have hP1l : P1.length ≤ 400 := by rw [← hP1, List.length_append, List.length_take]; omega
        rw [hP1] at hI
        obtain ⟨hO, hTb, hOn⟩ := hI
        obtain ⟨cnt, hcnt⟩ : ∃ c, P1.length = c := ⟨_, rfl⟩
        rw [hcnt] at hO hP1l
        replace hcnt := Lib.hid hcnt
        obtain ⟨ma, mc, hmv⟩ := hO.shape
        subst hmv
        by_cases hlj : j < x.length
        · have hji : (j : Int) < (x.length : Int) := by omega
          obtain rfl := hxa (by omega)
          obtain ⟨_, kF, _, hbwr⟩ := hfr.out wr hOn
          obtain ⟨h8, hmc0⟩ := hxc j hlj
          have hmc := hmc0.keep hbwr
          have hsn := take_snoc hlj ([] : List Int)
          have hmem : x.getD j [] ∈ thMs bz set := hsub.out (j + 1) _ (by rw [hsn]; simp)
          obtain ⟨m, hm⟩ : ∃ m, x.getD j [] = m := ⟨_, rfl⟩
          rw [hm] at h8 hmc hsn hmem
          replace hm := Lib.hid hm
          clear hmc0
          obtain ⟨m0, m1, m2, m3, m4, m5, m6, m7, rfl⟩ := eight h8
          obtain ⟨_, g7, ⟨t0, _⟩, _, g31⟩ := hall.out _ hmem
          have t0 : 0 ≤ m7 := t0
          obtain ⟨t, rfl⟩ : ∃ t : Nat, m7 = (t : Int) := ⟨m7.toNat, by omega⟩
          have hto : mvTo [m0, m1, m2, m3, m4, m5, m6, (t : Int)] = t := by simp [mvTo]
          have g6 := g31 m6 (by simp [rdOf])
          have hwf : WfR (unM f [m0, m1, m2, m3, m4, m5, m6, (t : Int)]) := wfR31 (uniR_len g7) (uniR_all hf g7 g31)
          obtain ⟨c0, c1, c2, c3, c4, c5, c6, c7⟩ := hmc.all8
          obtain ⟨Wb, hWb⟩ : ∃ Wb, Wb = wr.alloc (.cells #[.int .i64 m0, .int .i64 m1, .int .i64 m2, .int .i64 m3, .int .i64 m4, .int .i64 m5, .int .i64 m6, .int .i64 (t : Int)] 58) := ⟨_, rfl⟩
          have hbb : Below wr.heap.size wr Wb := by rw [hWb]; exact (Below.refl _ _).alloc (Nat.le_refl _) _
          have kM : Wb.heap[wr.heap.size]? = some (.cells #[.int .i64 m0, .int .i64 m1, .int .i64 m2, .int .i64 m3, .int .i64 m4, .int .i64 m5, .int .i64 m6, .int .i64 (t : Int)] 58) := by rw [hWb]; exact heap_alloc_new _ _
          have kFb := (hbb.block _ (Array.getElem?_eq_some_iff.1 kF).1).trans kF
          have HC := Lib.hid (uniteRd kFb hf m0 m1 m2 m3 m4 m5 g6)
          have hu : unM f [m0, m1, m2, m3, m4, m5, m6, (t : Int)] = [m0, m1, m2, m3, m4, m5, orI m6 f] := rfl
          obtain ⟨q, hq⟩ : ∃ q, orI m6 f = q := ⟨_, rfl⟩
          rw [hq] at HC hu
          replace hq := Lib.hid hq
          replace hu := Lib.hid hu
          replace hsn := Lib.hid hsn
          replace hwf := Lib.hid hwf
          replace hto := Lib.hid hto
          have hTB := Lib.hid hTb
          have hOB := Lib.hid hO
          clear hmc h8 hmem g31 g7 g6 kF kFb hO hTb
          go_wp2_with fail
          rw [← hWb]
          replace hWb := Lib.hid hWb
          refine HC.out.mono ?_
          rintro e w1 ⟨rfl, hb1⟩
          clear c0 c1 c2 c3 c4 c5 c6 c7
          have hbr1 := bt hbb hb1 hbb.size
          have kM1 : w1.heap[wr.heap.size]? = some (.cells #[.int .i64 m0, .int .i64 m1, .int .i64 m2, .int .i64 m3, .int .i64 m4, .int .i64 m5, .int .i64 m6, .int .i64 (t : Int)] 58) := (hb1.block _ (Array.getElem?_eq_some_iff.1 kM).1).trans kM
          have kM1a : (w1.alloc (.cells #[.int .i64 m0, .int .i64 m1, .int .i64 m2, .int .i64 m3, .int .i64 m4, .int .i64 m5, .int .i64 q] 51)).heap[wr.heap.size]? = some (.cells #[.int .i64 m0, .int .i64 m1, .int .i64 m2, .int .i64 m3, .int .i64 m4, .int .i64 m5, .int .i64 m6, .int .i64 (t : Int)] 58) := (Below.heap_alloc _ _ _ (Array.getElem?_eq_some_iff.1 kM1).1).trans kM1
          have n7 : (w1.alloc (.cells #[.int .i64 m0, .int .i64 m1, .int .i64 m2, .int .i64 m3, .int .i64 m4, .int .i64 m5, .int .i64 q] 51)).cell? ⟨wr.heap.size, 7, none⟩ = some (.int .i64 (t : Int)) := box_cell (j := 7) kM1a rfl
          obtain ⟨W4, hW4⟩ : ∃ W4, W4 = (w1.alloc (.cells #[.int .i64 m0, .int .i64 m1, .int .i64 m2, .int .i64 m3, .int .i64 m4, .int .i64 m5, .int .i64 q] 51)).alloc (.cells #[.int .i64 (t : Int)] 3) := ⟨_, rfl⟩
          have hz4 : W4.heap.size = w1.heap.size + 1 + 1 := by rw [hW4]; simp
          have hb4 : Below w1.heap.size w1 W4 := by rw [hW4]; exact ((Below.refl _ _).alloc (Nat.le_refl _) _).alloc (by simp) _
          have hb4r := bt hbr1 hb4 hbr1.size
          have kM4 := (hb4.block _ (Array.getElem?_eq_some_iff.1 kM1).1).trans kM1
          have kT4 : W4.heap[w1.heap.size + 1]? = some (.cells #[.int .i64 (t : Int)] 3) := by
            rw [hW4]
            have := heap_alloc_new (w1.alloc (.cells #[.int .i64 m0, .int .i64 m1, .int .i64 m2, .int .i64 m3, .int .i64 m4, .int .i64 m5, .int .i64 q] 51)) (.cells #[.int .i64 (t : Int)] 3)
            rwa [World.size_alloc] at this
          have hw3r := hOn.size
          have hw31 : W3.heap.size ≤ w1.heap.size := Nat.le_trans hw3r hbr1.size
          obtain ⟨v0, st, es1, k1, hrun, ⟨es0, cl0, hm4⟩, hOI, hnext⟩ := (hTB.out.keep hb4r).entry hwf.out
          obtain ⟨W5, hW5⟩ : ∃ W5, W5 = setBlock W4 (w.heap.size + 1 + 1) (.map es1 k1) := ⟨_, rfl⟩
          have hx5 : ∀ E, KeepX E W4 W5 := fun E => by rw [hW5]; exact keepX_map hm4 _
          have hz5 : W5.heap.size = W4.heap.size := by rw [hW5]; simp [setBlock]
          rw [← hW5] at hrun hOI hnext
          rw [hto.out, hu.out] at hnext
          rw [hu.out] at hOI hrun
          have hl0 := thTo_len f P1 [m0, m1, m2, m3, m4, m5, q]
          rw [hcnt.out] at hl0
          obtain ⟨l0, hl0e⟩ : ∃ l0, (thTo f P1 [m0, m1, m2, m3, m4, m5, q]).length = l0 := ⟨_, rfl⟩
          obtain ⟨X0, hX0e⟩ : ∃ X0, natI (thTo f P1 [m0, m1, m2, m3, m4, m5, q]) = X0 := ⟨_, rfl⟩
          rw [hl0e] at hOI hnext hl0
          rw [hX0e] at hOI hnext
          replace hl0e := Lib.hid hl0e
          replace hX0e := Lib.hid hX0e
          have hrun : (Instr.mapEntry 123 (.map (some (w.heap.size + 1 + 1))) (.agg #[.int .i64 m0, .int .i64 m1, .int .i64 m2, .int .i64 m3, .int .i64 m4, .int .i64 m5, .int .i64 q])).run Tryz.prog W4 = .ok (.tuple #[v0, .int .i64 (st : Int)]) W5 := hrun
          have kM5 := (hx5 3).size kM4 (by decide)
          have kT5 := (hx5 58).size kT4 (by decide)
          have hnews : ∀ (i : Nat) (u : Value), [Value.int .i64 (t : Int)][i]? = some u → W5.cell? ((⟨w1.heap.size + 1, 0, none⟩ : Addr).add i) = some u := fun i u hiu => by
            have hi0 : i = 0 := by have := (List.getElem?_eq_some_iff.1 hiu).1; simpa using this
            subst hi0
            simp only [List.getElem?_cons_zero, Option.some.injEq] at hiu
            subst hiu
            exact box_cell (j := 0) kT5 rfl
          have hc1 : ∀ u ∈ [Value.int .i64 (t : Int)], u.oneCell' = true := fun u hu => by rw [List.mem_singleton.1 hu]; rfl
          have hOI5 := hOI.owx
          have hl9 : l0 ≤ 1000000000000 := by omega
          have hB5 : W3.heap.size ≤ W5.heap.size := by omega
          have hO5 := (OwX.keep (EI.stab _) hOB.out hb4r).other (E' := 3) (EI.stab _) (by decide) (hx5 3)
          have hOn5 := (Only.thenBelow hOn (hb4r.mono hw3r)).setBlock (.map es1 k1)
          rw [← hW5] at hOn5
          rw [hW4] at hrun
          replace hnews := Lib.hid hnews
          replace hc1 := Lib.hid hc1
          replace hW4 := Lib.hid hW4
          replace hW5 := Lib.hid hW5
          replace hz4 := Lib.hid hz4
          replace hz5 := Lib.hid hz5
          clear kM kM1 kM1a kT4 kT5 hOI hb4 hm4
          go_wp2_with (at_builtin; refine wpList_appX (cs := [.int .i64 (t : Int)]) (x := (t : Int)) elemInt1 (by decide) (by decide) (E1I.stab _) rfl _ _ rfl rfl hOI5 ⟨w1.heap.size + 1, 0, none⟩ 1 rfl rfl hnews.out hc1.out rfl hl9 hB5 ?_)
          intro v6 w6 ho6 hg6 hn6 hb6 hx6
          obtain ⟨es2, k2, hst, ⟨es6, cl6, hm6⟩, hT7⟩ := hnext w6 v6 hg6 hn6 ho6.oi
          obtain ⟨W7, hW7⟩ : ∃ W7, W7 = setBlock w6 (w.heap.size + 1 + 1) (.map es2 k2) := ⟨_, rfl⟩
          rw [← hW7] at hst hT7
          have hx7 : ∀ E, KeepX E w6 W7 := fun E => by rw [hW7]; exact keepX_map hm6 _
          have hz7 : W7.heap.size = w6.heap.size := by rw [hW7]; simp [setBlock]
          have hst : (Instr.entryStore 123 (.map (some (w.heap.size + 1 + 1))) (.int .i64 (st : Int)) v6).run Tryz.prog w6 = .ok () W7 := hst
          have kM7 := (hx7 3).size (hx6.size kM5 (by decide)) (by decide)
          have hO7 := (hO5.other (E' := 3) (EI.stab _) (by decide) hx6).other (E' := 3) (EI.stab _) (by decide) (hx7 3)
          have hOn7 := (hOn5.thenBelow hb6).setBlock (.map es2 k2)
          rw [← hW7] at hOn7
          have hB7 : W3.heap.size ≤ W7.heap.size := hOn7.size
          have d0 := box_cell (j := 0) kM7 rfl
          have d1 := box_cell (j := 1) kM7 rfl
          have d2 := box_cell (j := 2) kM7 rfl
          have d3 := box_cell (j := 3) kM7 rfl
          have d4 := box_cell (j := 4) kM7 rfl
          have d5 := box_cell (j := 5) kM7 rfl
          have d6 := box_cell (j := 6) kM7 rfl
          have d7 := box_cell (j := 7) kM7 rfl
          have hln9 : cnt ≤ 1000000000000 := by omega
          have hEM : EI W7 [.int .i64 m0, .int .i64 m1, .int .i64 m2, .int .i64 m3, .int .i64 m4, .int .i64 m5, .int .i64 m6, .int .i64 (t : Int)] [m0, m1, m2, m3, m4, m5, m6, (t : Int)] := rfl
          have hc8 : ∀ u ∈ (#[.int .i64 m0, .int .i64 m1, .int .i64 m2, .int .i64 m3, .int .i64 m4, .int .i64 m5, .int .i64 m6, .int .i64 (t : Int)] : Array Value).toList, u.oneCell' = true := fun u hu => by
            simp only [List.mem_cons, List.not_mem_nil, or_false] at hu
            rcases hu with rfl | rfl | rfl | rfl | rfl | rfl | rfl | rfl <;> rfl
          replace hEM := Lib.hid hEM
          replace hc8 := Lib.hid hc8
          replace hW7 := Lib.hid hW7
          replace hz7 := Lib.hid hz7
          have hP1e : P0 ++ x.take (j + 1) = P1 ++ [[m0, m1, m2, m3, m4, m5, m6, (t : Int)]] := by rw [hsn.out, ← hP1, List.append_assoc]
          replace hP1 := Lib.hid hP1
          replace hP1e := Lib.hid hP1e
          clear hnext ho6 hg6 hn6 hrun hO5 hOn5 kM5 kM7 hm6
          go_wp2_with (at_builtin; refine wpAppX (x := [m0, m1, m2, m3, m4, m5, m6, (t : Int)]) elemMv (by decide) (by decide) (EI.stab _) rfl _ _ rfl rfl hO7 rfl rfl rfl hc8.out hEM.out hln9 hB7 ?_)
          intro v8 w8 ho8 hg8 hb8 hx8
          have hT8 := hT7.move (by have := hz3.out; omega) hb8 hx8
          have hOn8 := hOn7.thenBelow hb8
          have hI8 : InvS W3 (w.heap.size + 1 + 1) f (P0 ++ x.take (j + 1)) v8 w8 := by
            rw [hP1e.out]
            refine ⟨?_, hT8, hOn8⟩
            rw [List.length_append, hcnt.out]
            exact ho8
          clear ho8 hg8 hx8 hT8 hOn8 hT7 hO7
          go_wp2
          go_roundw
          case rel => exact ⟨j + 1, by go_num, hlj, hI8⟩
          case measure => simp [intOf]; omega
        · obtain rfl : j = x.length := by omega
          have hge : ¬ ((x.length : Int) < (x.length : Int)) := by omega
          have hIe : InvS W3 (w.heap.size + 1 + 1) f (thMs bz (set.take (i + 1))) (.slice ma cnt mc) wr := by
            rw [hstp.out, ← hcnt.out]
            rw [List.take_length] at hP1
            rw [hP1]
            rw [hcnt.out]
            exact ⟨by rw [hcnt.out]; exact hO, hTb, hOn⟩
          clear hO hTb
          go_wp2
          go_roundw
          case rel => exact ⟨i + 1, by go_num, hlt, hIe⟩
          case measure => simp [intOf]; omega
    · obtain rfl : i = set.length := by omega
      have hge : ¬ ((set.length : Int) < (set.length : Int)) := by omega
      rw [List.take_length] at hI
      obtain ⟨hO, hTb, hOn⟩ := hI
      have hLall := thRs_all sB (set := set) hf
      have hLlen := thRs_len f (thMs bz set)
      have hARe : thSq bz k f set = (thRs f (thMs bz set)).map fun r => (r, (k, f, thTx (thTo f (thMs bz set) r))) := rfl
      have hTlt : ∀ r, ∀ s ∈ thTo f (thMs bz set) r, s < bz.length := fun r => thTo_lt sB (set := set)
      have hallF := hall.out
      obtain ⟨F, hFe⟩ : ∃ F, thMs bz set = F := ⟨_, rfl⟩
      rw [hFe] at hO hTb h320 hFpos hLall hLlen hARe hTlt hallF
      obtain ⟨_, kF, _, hbw⟩ := hfr.out wo hOn
      obtain ⟨ma, mc, hmv⟩ := hO.shape
      subst hmv
      have HR := Lib.hid (roundsUnite kF hf (fun m hm => (hallF m hm).2.2.2.2) (hO.ks (by omega)) hFpos (by omega))
      have hLasc := lets_asc (F.map (unM f))
      have hLm := lets_mem (F.map (unM f))
      have hThp : ∀ r ∈ thRs f F, thTo f F r ≠ [] := fun r hr => thTo_pos hr
      have hThl := fun r => thTo_len f F r
      obtain ⟨L, hLe⟩ : ∃ L, thRs f F = L := ⟨_, rfl⟩
      have hLe2 : lets (F.map (unM f)) = L := hLe
      rw [hLe] at hLall hLlen hARe hThp
      rw [hLe2] at HR hLasc hLm
      have hLnd := asc_nodup' hLasc
      obtain ⟨AR, hAR⟩ : ∃ AR, thSq bz k f set = AR := ⟨_, rfl⟩
      rw [hAR] at hARe ⊢
      have hARl : AR.length = L.length := by rw [hARe, List.length_map]
      have hARs := Lib.hid (fun j (hj : j < L.length) => show AR.take (j + 1) = AR.take j ++ [(L.getD j [], (k, f, thTx (thTo f F (L.getD j []))))] from by
        rw [List.take_succ_eq_append_getElem (by omega), getD_eq hj]
        congr 2
        simp only [hARe, List.getElem_map])
      replace hAR := Lib.hid hAR
      replace hARe := Lib.hid hARe
      replace hFe := Lib.hid hFe
      replace hLe := Lib.hid hLe
      replace hLe2 := Lib.hid hLe2
      replace hTlt := Lib.hid hTlt
      replace hLall := Lib.hid hLall
      replace hThp := Lib.hid hThp
      replace hThl := Lib.hid hThl
      replace hLm := Lib.hid hLm
      replace hLnd := Lib.hid hLnd
      replace hARl := Lib.hid hARl
      clear hallF hLasc kF hO
      go_wp2_with fail
      refine HR.out.mono ?_
      rintro e w2 ⟨rv, rfl, hL2, hb2⟩
      obtain ⟨m, hM2, hWf, hT2⟩ := hTb.keep hb2
      have hOn2 := hOn.thenBelow (hb2.mono hOn.size)
      have hone := Lib.hid hT2.one
      have hap := Lib.hid hT2.apart
      have hrow0 : RowsL w2 W3.heap.size f F m (L.drop 0) := fun i p hp _ => (hT2.row i p hp).2
      have hfind := Lib.hid (fun r (hr : r ∈ L) => show ∃ (i : Nat) (v : Value), m[i]? = some (r, v) from by
        obtain ⟨a, ha, rfl⟩ := List.mem_map.1 ((hLm.out r).1 hr)
        obtain ⟨p, hp, he⟩ := List.mem_map.1 (hT2.has a ha)
        obtain ⟨i, hi⟩ := List.mem_iff_getElem?.1 hp
        exact ⟨i, p.2, by rw [hi, ← he]⟩)
      obtain ⟨rva, rvc, hrv⟩ := hL2.shape
      subst hrv
      have hL2' := OwX.base (B' := W3.heap.size) hL2 hOn.size
      have hO0 : OwX 75 10 EAr w2 W3.heap.size (.slice none 0 0) (AR.take 0).length (AR.take 0) := OwX.nil _ _
      replace hWf := Lib.hid hWf
      clear hTb hOn hT2 hL2 hb2 hbw
      go_wp2_with fail
      go_loopw [17, 62] (fun ov jv wr => ∃ j : Nat, jv = .int .i64 j ∧ j ≤ L.length ∧ OwX 75 10 EAr wr W3.heap.size ov (AR.take j).length (AR.take j) ∧ MS rdV wr (w.heap.size + 1 + 1) m ∧ RowsL wr W3.heap.size f F m (L.drop j) ∧ OwX 51 7 EI wr W3.heap.size (.slice rva L.length rvc) L.length L ∧ Only (fun k => k = w.heap.size + 1 + 1) W3 wr) (fun _ jv _ => L.length - (intOf jv).toNat)
      case atStart => exact ⟨0, rfl, by omega, hO0, hM2, hrow0, hL2', hOn2⟩
      case round =>
        clear hO0 hM2 hrow0 hL2' hOn2
        obtain ⟨j, rfl, hj, hO, hM, hrw, hLr, hOn⟩ := hrel
        obtain ⟨cnt, hcnt⟩ : ∃ c, (AR.take j).length = c := ⟨_, rfl⟩
        have hc9 : cnt ≤ 1000000000000 := by rw [← hcnt, List.length_take]; omega
        rw [hcnt] at hO
        obtain ⟨oa, oc, hov⟩ := hO.shape
        subst hov
        by_cases hlt : j < L.length
        · have hji : (j : Int) < (L.length : Int) := by omega
          obtain ⟨gr, rc, hve, _⟩ := hLr.form (by omega)
          obtain ⟨rfl, rfl⟩ : rva = some ⟨gr, 0, none⟩ ∧ rvc = rc := by injection hve with h1 h2 h3; exact ⟨h1, h3⟩
          clear hve
          obtain ⟨h7, hrc⟩ := hLr.intCells hlt
          have hmemL : L.getD j [] ∈ L := by rw [getD_eq hlt]; exact List.getElem_mem hlt
          have hst := hARs.out j hlt
          obtain ⟨i0, v0, hi0⟩ := hfind.out _ hmemL
          have hr31 := (hLall.out _ hmemL).2
          have hthp := hThp.out _ hmemL
          have hthl := hThl.out (L.getD j [])
          have htlt := hTlt.out (L.getD j [])
          have hdrop : L.drop j = L.getD j [] :: L.drop (j + 1) := drop_cons hlt []
          have hnotin : L.getD j [] ∉ L.drop (j + 1) := fun h => by
            have h1 : (L.drop j).Nodup := List.Sublist.nodup (List.drop_sublist j L) hLnd.out
            rw [hdrop, List.nodup_cons] at h1
            exact h1.1 h
          rw [hdrop] at hrw
          obtain ⟨r, hr⟩ : ∃ r, L.getD j [] = r := ⟨_, rfl⟩
          rw [hr] at h7 hrc hst hi0 hr31 hthp hthl htlt hnotin hrw
          replace hr := Lib.hid hr
          clear hdrop hmemL
          obtain ⟨r0, r1, r2, r3, r4, r5, r6, rfl⟩ := seven h7
          obtain ⟨c0, c1, c2, c3, c4, c5, c6⟩ := hrc.all7
          have hwfr : WfR [r0, r1, r2, r3, r4, r5, r6] := wfR31 rfl hr31
          have hrow := hrw i0 _ hi0 (List.mem_cons_self ..)
          simp only at hrow
          obtain ⟨T, hTe⟩ : ∃ T, thTx (thTo f F [r0, r1, r2, r3, r4, r5, r6]) = T := ⟨_, rfl⟩
          rw [hTe] at hst
          obtain ⟨Wb, hWb⟩ : ∃ Wb, Wb = wr.alloc (.cells #[.int .i64 r0, .int .i64 r1, .int .i64 r2, .int .i64 r3, .int .i64 r4, .int .i64 r5, .int .i64 r6] 51) := ⟨_, rfl⟩
          have hbb : Below wr.heap.size wr Wb := by rw [hWb]; exact (Below.refl _ _).alloc (Nat.le_refl _) _
          have kB : Wb.heap[wr.heap.size]? = some (.cells #[.int .i64 r0, .int .i64 r1, .int .i64 r2, .int .i64 r3, .int .i64 r4, .int .i64 r5, .int .i64 r6] 51) := by rw [hWb]; exact heap_alloc_new _ _
          have hbd : Below wr.heap.size wr Wb.drew := hbb.drew
          have HT := Lib.hid (textC (hrow.keep hbd) hthp (by omega) (fun s hs => by have := htlt s hs; have := hN.out; omega))
          rw [hTe] at HT
          have hlk : Hid (∀ W, MS rdV W (w.heap.size + 1 + 1) m → (Instr.lookup 123 (.map (some (w.heap.size + 1 + 1))) (.agg #[.int .i64 r0, .int .i64 r1, .int .i64 r2, .int .i64 r3, .int .i64 r4, .int .i64 r5, .int .i64 r6]) false).run Tryz.prog W = .ok v0 W) := fun W hMW => by
            rcases MX.look (vv := (id : Value → Value)) keyX_round umRowT (zRow W) hMW.mx hWf.out hwfr with ⟨h1, _⟩ | ⟨v, h1, h2, _⟩
            · exact absurd (List.mem_map_of_mem (f := Prod.fst) (List.mem_of_getElem? hi0)) h1
            · obtain ⟨i1, hi1⟩ := List.mem_iff_getElem?.1 h1
              obtain rfl := hone.out i1 i0 _ _ hi1 hi0 rfl
              rw [hi1] at hi0
              injection hi0 with hi0
              injection hi0 with _ hi0
              subst hi0
              exact h2
          have hw3r := hOn.size
          have hz3' := hz3.out
          have kFr := (hfr.out wr hOn).2.1
          have hFr : Hid (∀ W, W.heap[wr.heap.size]? = some (.cells #[.int .i64 r0, .int .i64 r1, .int .i64 r2, .int .i64 r3, .int .i64 r4, .int .i64 r5, .int .i64 r6] 51) → W.heap[w.heap.size + 1]? = some (.cells #[.int .i64 f] 3) → MS rdV W (w.heap.size + 1 + 1) m → W.cell? ⟨wr.heap.size, 0, none⟩ = some (.int .i64 r0) ∧ W.cell? ⟨wr.heap.size, 1, none⟩ = some (.int .i64 r1) ∧ W.cell? ⟨wr.heap.size, 2, none⟩ = some (.int .i64 r2) ∧ W.cell? ⟨wr.heap.size, 3, none⟩ = some (.int .i64 r3) ∧ W.cell? ⟨wr.heap.size, 4, none⟩ = some (.int .i64 r4) ∧ W.cell? ⟨wr.heap.size, 5, none⟩ = some (.int .i64 r5) ∧ W.cell? ⟨wr.heap.size, 6, none⟩ = some (.int .i64 r6) ∧ W.cell? ⟨w.heap.size + 1, 0, none⟩ = some (.int .i64 f) ∧ (Instr.lookup 123 (.map (some (w.heap.size + 1 + 1))) (.agg #[.int .i64 r0, .int .i64 r1, .int .i64 r2, .int .i64 r3, .int .i64 r4, .int .i64 r5, .int .i64 r6]) false).run Tryz.prog W = .ok v0 W) := fun W h1 h2 h3 =>
            ⟨box_cell (j := 0) h1 rfl, box_cell (j := 1) h1 rfl, box_cell (j := 2) h1 rfl, box_cell (j := 3) h1 rfl, box_cell (j := 4) h1 rfl, box_cell (j := 5) h1 rfl, box_cell (j := 6) h1 rfl, box_cell (j := 0) h2 rfl, hlk.out W h3⟩
          have hne : v0.ownBlock ≠ some wr.heap.size := fun e => by have := World.ownsRow.lt hrow _ e; omega
          have hty : ∀ g, v0.ownBlock = some g → ∃ cs, Wb.drew.heap[g]? = some (.cells cs 3) := ownsRow_ty (hrow.keep hbd)
          have hAft : Hid (∀ w9, Wb.drew.grownBy w9 v0.ownBlock → Below W3.heap.size Wb.drew w9 → (w9.heap[wr.heap.size]? = some (.cells #[.int .i64 r0, .int .i64 r1, .int .i64 r2, .int .i64 r3, .int .i64 r4, .int .i64 r5, .int .i64 r6] 51) ∧ w9.heap[w.heap.size + 1]? = some (.cells #[.int .i64 f] 3) ∧ MS rdV w9 (w.heap.size + 1 + 1) m) ∧
              OwX 75 10 EAr (w9.alloc (.cells #[.int .i64 r0, .int .i64 r1, .int .i64 r2, .int .i64 r3, .int .i64 r4, .int .i64 r5, .int .i64 r6, .int .i64 k, .int .i64 f, .string (bsN T)] 75)) W3.heap.size (.slice oa cnt oc) cnt (AR.take j) ∧ W3.heap.size ≤ (w9.alloc (.cells #[.int .i64 r0, .int .i64 r1, .int .i64 r2, .int .i64 r3, .int .i64 r4, .int .i64 r5, .int .i64 r6, .int .i64 k, .int .i64 f, .string (bsN T)] 75)).heap.size ∧
              RowsL w9 W3.heap.size f F m (L.drop (j + 1)) ∧ OwX 51 7 EI w9 W3.heap.size (.slice (some ⟨gr, 0, none⟩) L.length rvc) L.length L ∧ Only (fun k => k = w.heap.size + 1 + 1) W3 w9) := fun w9 hg9 hb9 => by
            have hx9 : KeepX 3 Wb.drew w9 := KeepX.grown hg9 hty
            have hsd : Wb.drew.heap.size = wr.heap.size + 1 := by rw [World.size_drew, hWb, World.size_alloc]
            refine ⟨⟨(hg9.block _ (by omega) (fun e => hne e.symm)).trans kB, (hb9.block _ (by omega)).trans ((hbd.block _ (by omega)).trans kFr), (hM.keep (hbd.block _ (by omega))).keep (hb9.block _ (by omega))⟩, ?_, ?_, ?_, ?_, ?_⟩
            · exact OwX.keep (EAr.stab _) ((OwX.keep (EAr.stab _) hO hbd).other (E' := 3) (EAr.stab _) (by decide) hx9) ((Below.refl _ w9).alloc (Nat.le_refl _) _)
            · have := hb9.size
              rw [World.size_alloc]; omega
            · exact (hrw.keep hbd).next hnotin hap.out hi0 hg9
            · exact (OwX.keep (EI.stab _) hLr hbd).other (E' := 3) (EI.stab _) (by decide) hx9
            · exact (hOn.thenBelow (hbd.mono hw3r)).thenBelow hb9
          have hAfA : Hid (∀ w9 : World, (w9.heap[wr.heap.size]? = some (.cells #[.int .i64 r0, .int .i64 r1, .int .i64 r2, .int .i64 r3, .int .i64 r4, .int .i64 r5, .int .i64 r6] 51) ∧ w9.heap[w.heap.size + 1]? = some (.cells #[.int .i64 f] 3) ∧ MS rdV w9 (w.heap.size + 1 + 1) m) → (w9.alloc (.cells #[.int .i64 r0, .int .i64 r1, .int .i64 r2, .int .i64 r3, .int .i64 r4, .int .i64 r5, .int .i64 r6, .int .i64 k, .int .i64 f, .string (bsN T)] 75)).cell? ⟨wr.heap.size, 0, none⟩ = some (.int .i64 r0) ∧ (w9.alloc (.cells #[.int .i64 r0, .int .i64 r1, .int .i64 r2, .int .i64 r3, .int .i64 r4, .int .i64 r5, .int .i64 r6, .int .i64 k, .int .i64 f, .string (bsN T)] 75)).cell? ⟨wr.heap.size, 1, none⟩ = some (.int .i64 r1) ∧ (w9.alloc (.cells #[.int .i64 r0, .int .i64 r1, .int .i64 r2, .int .i64 r3, .int .i64 r4, .int .i64 r5, .int .i64 r6, .int .i64 k, .int .i64 f, .string (bsN T)] 75)).cell? ⟨wr.heap.size, 2, none⟩ = some (.int .i64 r2) ∧ (w9.alloc (.cells #[.int .i64 r0, .int .i64 r1, .int .i64 r2, .int .i64 r3, .int .i64 r4, .int .i64 r5, .int .i64 r6, .int .i64 k, .int .i64 f, .string (bsN T)] 75)).cell? ⟨wr.heap.size, 3, none⟩ = some (.int .i64 r3) ∧ (w9.alloc (.cells #[.int .i64 r0, .int .i64 r1, .int .i64 r2, .int .i64 r3, .int .i64 r4, .int .i64 r5, .int .i64 r6, .int .i64 k, .int .i64 f, .string (bsN T)] 75)).cell? ⟨wr.heap.size, 4, none⟩ = some (.int .i64 r4) ∧ (w9.alloc (.cells #[.int .i64 r0, .int .i64 r1, .int .i64 r2, .int .i64 r3, .int .i64 r4, .int .i64 r5, .int .i64 r6, .int .i64 k, .int .i64 f, .string (bsN T)] 75)).cell? ⟨wr.heap.size, 5, none⟩ = some (.int .i64 r5) ∧ (w9.alloc (.cells #[.int .i64 r0, .int .i64 r1, .int .i64 r2, .int .i64 r3, .int .i64 r4, .int .i64 r5, .int .i64 r6, .int .i64 k, .int .i64 f, .string (bsN T)] 75)).cell? ⟨wr.heap.size, 6, none⟩ = some (.int .i64 r6) ∧ (w9.alloc (.cells #[.int .i64 r0, .int .i64 r1, .int .i64 r2, .int .i64 r3, .int .i64 r4, .int .i64 r5, .int .i64 r6, .int .i64 k, .int .i64 f, .string (bsN T)] 75)).cell? ⟨w.heap.size + 1, 0, none⟩ = some (.int .i64 f) ∧ (Instr.lookup 123 (.map (some (w.heap.size + 1 + 1))) (.agg #[.int .i64 r0, .int .i64 r1, .int .i64 r2, .int .i64 r3, .int .i64 r4, .int .i64 r5, .int .i64 r6]) false).run Tryz.prog (w9.alloc (.cells #[.int .i64 r0, .int .i64 r1, .int .i64 r2, .int .i64 r3, .int .i64 r4, .int .i64 r5, .int .i64 r6, .int .i64 k, .int .i64 f, .string (bsN T)] 75)) = .ok v0 (w9.alloc (.cells #[.int .i64 r0, .int .i64 r1, .int .i64 r2, .int .i64 r3, .int .i64 r4, .int .i64 r5, .int .i64 r6, .int .i64 k, .int .i64 f, .string (bsN T)] 75))) := fun w9 ⟨h1, h2, h3⟩ => by
            have hal := fun b (hk : b < w9.heap.size) => Below.heap_alloc w9 (.cells #[.int .i64 r0, .int .i64 r1, .int .i64 r2, .int .i64 r3, .int .i64 r4, .int .i64 r5, .int .i64 r6, .int .i64 k, .int .i64 f, .string (bsN T)] 75) b hk
            exact hFr.out _ ((hal _ (Array.getElem?_eq_some_iff.1 h1).1).trans h1) ((hal _ (Array.getElem?_eq_some_iff.1 h2).1).trans h2) (h3.keep (hal _ h3.lt))
          have hc10 : ∀ u ∈ [Value.int .i64 r0, .int .i64 r1, .int .i64 r2, .int .i64 r3, .int .i64 r4, .int .i64 r5, .int .i64 r6, .int .i64 k, .int .i64 f, .string (bsN T)], u.oneCell' = true := fun u hu => by
            simp only [List.mem_cons, List.not_mem_nil, or_false] at hu
            rcases hu with rfl | rfl | rfl | rfl | rfl | rfl | rfl | rfl | rfl | rfl <;> rfl
          have hMb := hM.keep (w' := Wb) (hbb.block _ (by omega))
          obtain ⟨f0, f1, f2, f3, f4, f5, f6, f7, f8⟩ := hFr.out Wb kB ((hbb.block _ (by omega)).trans kFr) hMb
          have hAftB : Wb.drew.heap[wr.heap.size]? = some (.cells #[.int .i64 r0, .int .i64 r1, .int .i64 r2, .int .i64 r3, .int .i64 r4, .int .i64 r5, .int .i64 r6] 51) ∧ Wb.drew.heap[w.heap.size + 1]? = some (.cells #[.int .i64 f] 3) ∧ MS rdV Wb.drew (w.heap.size + 1 + 1) m := ⟨kB, (hbd.block _ (by omega)).trans kFr, hM.keep (hbd.block _ (by omega))⟩
          have hAf2 : Hid (∀ w9 w10 : World, (w9.heap[wr.heap.size]? = some (.cells #[.int .i64 r0, .int .i64 r1, .int .i64 r2, .int .i64 r3, .int .i64 r4, .int .i64 r5, .int .i64 r6] 51) ∧ w9.heap[w.heap.size + 1]? = some (.cells #[.int .i64 f] 3) ∧ MS rdV w9 (w.heap.size + 1 + 1) m) → Below W3.heap.size (w9.alloc (.cells #[.int .i64 r0, .int .i64 r1, .int .i64 r2, .int .i64 r3, .int .i64 r4, .int .i64 r5, .int .i64 r6, .int .i64 k, .int .i64 f, .string (bsN T)] 75)) w10 → KeepX 75 (w9.alloc (.cells #[.int .i64 r0, .int .i64 r1, .int .i64 r2, .int .i64 r3, .int .i64 r4, .int .i64 r5, .int .i64 r6, .int .i64 k, .int .i64 f, .string (bsN T)] 75)) w10 →
              w10.heap[wr.heap.size]? = some (.cells #[.int .i64 r0, .int .i64 r1, .int .i64 r2, .int .i64 r3, .int .i64 r4, .int .i64 r5, .int .i64 r6] 51) ∧ w10.heap[w.heap.size + 1]? = some (.cells #[.int .i64 f] 3) ∧ MS rdV w10 (w.heap.size + 1 + 1) m) := fun w9 w10 ⟨h1, h2, h3⟩ hb hx => by
            have hal := fun b (hk : b < w9.heap.size) => Below.heap_alloc w9 (.cells #[.int .i64 r0, .int .i64 r1, .int .i64 r2, .int .i64 r3, .int .i64 r4, .int .i64 r5, .int .i64 r6, .int .i64 k, .int .i64 f, .string (bsN T)] 75) b hk
            refine ⟨hx.size ((hal _ (Array.getElem?_eq_some_iff.1 h1).1).trans h1) (by decide), (hb.block _ (by omega)).trans ((hal _ (Array.getElem?_eq_some_iff.1 h2).1).trans h2), (h3.keep (hal _ h3.lt)).keep (hb.block _ (by omega))⟩
          replace hTe := Lib.hid hTe
          replace hc10 := Lib.hid hc10
          replace hst := Lib.hid hst
          replace hz3' := Lib.hid hz3'
          replace hcnt := Lib.hid hcnt
          replace hAftB := hAftB
          clear hO hM hrw hLr hOn hrow hrc h7 hr31 hthp hthl htlt hty hne kB kFr hMb hbb hbd
          have hFd : Hid (Wb.drew.cell? ⟨wr.heap.size, 0, none⟩ = some (.int .i64 r0) ∧ Wb.drew.cell? ⟨wr.heap.size, 1, none⟩ = some (.int .i64 r1) ∧ Wb.drew.cell? ⟨wr.heap.size, 2, none⟩ = some (.int .i64 r2) ∧ Wb.drew.cell? ⟨wr.heap.size, 3, none⟩ = some (.int .i64 r3) ∧ Wb.drew.cell? ⟨wr.heap.size, 4, none⟩ = some (.int .i64 r4) ∧ Wb.drew.cell? ⟨wr.heap.size, 5, none⟩ = some (.int .i64 r5) ∧ Wb.drew.cell? ⟨wr.heap.size, 6, none⟩ = some (.int .i64 r6) ∧ Wb.drew.cell? ⟨w.heap.size + 1, 0, none⟩ = some (.int .i64 f) ∧ (Instr.lookup 123 (.map (some (w.heap.size + 1 + 1))) (.agg #[.int .i64 r0, .int .i64 r1, .int .i64 r2, .int .i64 r3, .int .i64 r4, .int .i64 r5, .int .i64 r6]) false).run Tryz.prog Wb.drew = .ok v0 Wb.drew) := hFr.out Wb.drew hAftB.1 hAftB.2.1 hAftB.2.2
          go_wp2_with fail
          rw [← hWb]
          replace hWb := Lib.hid hWb
          go_region_held3 (fun w' => w'.cell? ⟨wr.heap.size, 0, none⟩ = some (.int .i64 r0) ∧ w'.cell? ⟨wr.heap.size, 1, none⟩ = some (.int .i64 r1) ∧ w'.cell? ⟨wr.heap.size, 2, none⟩ = some (.int .i64 r2) ∧ w'.cell? ⟨wr.heap.size, 3, none⟩ = some (.int .i64 r3) ∧ w'.cell? ⟨wr.heap.size, 4, none⟩ = some (.int .i64 r4) ∧ w'.cell? ⟨wr.heap.size, 5, none⟩ = some (.int .i64 r5) ∧ w'.cell? ⟨wr.heap.size, 6, none⟩ = some (.int .i64 r6) ∧ w'.cell? ⟨w.heap.size + 1, 0, none⟩ = some (.int .i64 f) ∧ (Instr.lookup 123 (.map (some (w.heap.size + 1 + 1))) (.agg #[.int .i64 r0, .int .i64 r1, .int .i64 r2, .int .i64 r3, .int .i64 r4, .int .i64 r5, .int .i64 r6]) false).run Tryz.prog w' = .ok v0 w')
            (first
              | (exact kep9 hFd.out)
              | (exact kep9 (hFr.out _ hA10.1 hA10.2.1 hA10.2.2))
              | (exact kep9 (hFr.out _ hA9.1.1 hA9.1.2.1 hA9.1.2.2))
              | (exact kep9 hA9a)
              | go_keep)
            (first
              | (go_at_call 41; (with_reducible refine HT.out.mono ?_); rintro e w9 ⟨rfl, hg9, hb9⟩; have hA9 := hAft.out w9 hg9 hb9; have hA9a := hAfA.out w9 hA9.1)
              | (refine step_appX (cs := [.int .i64 r0, .int .i64 r1, .int .i64 r2, .int .i64 r3, .int .i64 r4, .int .i64 r5, .int .i64 r6, .int .i64 k, .int .i64 f, .string (bsN T)]) (x := ([r0, r1, r2, r3, r4, r5, r6], (k, f, T))) elemAr (by decide) (by decide) (EAr.stab _) (by rfl) _ _ (by rfl) (by rfl) hA9.2.1 ⟨w9.heap.size, 0, none⟩ 1 (by rfl) rfl newCells hc10.out ⟨rfl, rfl⟩ hc9 hA9.2.2.1 ?_; intro v10 w10 ho10 hg10 hn10 hb10 hx10; have hA10 := hAf2.out w9 w10 hA9.1 hb10 hx10))
          have hba : Below w9.heap.size w9 (w9.alloc (.cells #[.int .i64 r0, .int .i64 r1, .int .i64 r2, .int .i64 r3, .int .i64 r4, .int .i64 r5, .int .i64 r6, .int .i64 k, .int .i64 f, .string (bsN T)] 75)) := (Below.refl _ _).alloc (Nat.le_refl _) _
          obtain ⟨_, _, hB9, hrw9, hLr9, hOn9⟩ := hA9
          have hrw10 := (hrw9.keep hba).other (E := 75) (by decide) hx10
          have hLr10 := (OwX.keep (EI.stab _) hLr9 hba).other (E' := 75) (EI.stab _) (by decide) hx10
          have hOn10 := (hOn9.thenBelow (hba.mono hOn9.size)).thenBelow hb10
          have hM10 := hA10.2.2
          have ho11 : OwX 75 10 EAr w10 W3.heap.size v10 (AR.take (j + 1)).length (AR.take (j + 1)) := by
            rw [hst.out, List.length_append, hcnt.out]; exact ho10
          clear ho10 hrw9 hLr9 hOn9 hA10 hA9a hba
          go_wp2
          go_roundw
          case rel => exact ⟨j + 1, by go_num, hlt, ho11, hM10, hrw10, hLr10, hOn10⟩
          case measure => simp [intOf]; omega
        · obtain rfl : j = L.length := by omega
          have hge : ¬ ((L.length : Int) < (L.length : Int)) := by omega
          have hfin : OwX 75 10 EAr wr w.heap.size (.slice oa cnt oc) AR.length AR := by
            rw [← hARl.out, List.take_length] at hO hcnt
            have h := OwX.base (B' := w.heap.size) hO (by have := hz3.out; omega)
            rw [← hcnt] at h
            rw [← hcnt]
            exact h
          have hbf := (hfr.out wr hOn).2.2.2
          rw [← hAR.out] at hfin
          replace hfin := Lib.hid hfin
          clear hO hM hrw hLr
          go_wp2
          go_ret
          exact ⟨_, rfl, hfin.out, hbf⟩
end Go.Proofs.YtiiiegflobihjaaGreat
