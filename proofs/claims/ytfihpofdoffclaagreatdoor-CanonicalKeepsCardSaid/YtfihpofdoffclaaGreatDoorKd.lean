/- Texts of this claim, put together: RK C0 C1 C2 A1 A2. -/
import Derived.Test.YtfihpofdoffclaaGreatDoorKc
import Derived.Test.YtfihpofdoffclaaGreatDoorKa
import Derived.StringKeys

/- Rounds as keys of maps; ints, texts as keys. -/
namespace Go.Proofs.YtfihpofdoffclaaGreatDoor
open Go.RowKit Go.ChangeMaps Go.MapKept Go.WideMaps

def rdV (r : List Int) : Value := .agg (r.map (Value.int .i64)).toArray
def WfR (r : List Int) : Prop := r.length = 7 ∧ ∀ x ∈ r, 0 ≤ x ∧ x ≤ 1000000
theorem und_int : Tryz.prog.underlying 3 = some (.int .i64) := by kernel_rfl
theorem typesSize : ∃ m, Tryz.prog.types.size = m + 3 := ⟨Tryz.prog.types.size - 3, by
  have : decide (2 < Tryz.prog.types.size) = true := by kernel_rfl
  have := of_decide_eq_true this
  omega⟩
theorem litI {x : Int} (m : Nat) (h : 0 ≤ x ∧ x ≤ 1000000) : Tryz.prog.keyLits (m + 1) 3 [.int .i64 x] = some [.int .i64 x] := by
  unfold Program.keyLits
  simp only [und_int]
  rw [if_pos ⟨trivial, WalkArith.wf_i64 (by omega)⟩]
theorem lawRd : Maps.Keyed Tryz.prog 79 := Maps.Keyed.of_law (deep_law_gate (by kernel_rfl) (of_decide_eq_true (by kernel_rfl)) (of_decide_eq_true (by kernel_rfl)) (by kernel_rfl) (by kernel_rfl))
theorem litA {h0 h1 h2 h3 h4 : Int} (m : Nat) (g0 : 0 ≤ h0 ∧ h0 ≤ 1000000) (g1 : 0 ≤ h1 ∧ h1 ≤ 1000000) (g2 : 0 ≤ h2 ∧ h2 ≤ 1000000) (g3 : 0 ≤ h3 ∧ h3 ≤ 1000000) (g4 : 0 ≤ h4 ∧ h4 ≤ 1000000) :
    Tryz.prog.keyLits (m + 2) 75 [.int .i64 h0, .int .i64 h1, .int .i64 h2, .int .i64 h3, .int .i64 h4] = some [.int .i64 h0, .int .i64 h1, .int .i64 h2, .int .i64 h3, .int .i64 h4] := by
  have u5 : Tryz.prog.underlying 75 = some (.array 5 3) := by kernel_rfl
  have c5 : Tryz.prog.cellsOf 75 = 5 := by kernel_rfl
  have c1 : Tryz.prog.cellsOf 3 = 1 := by kernel_rfl
  rw [show m + 2 = (m + 1) + 1 from rfl]
  conv => lhs; unfold Program.keyLits
  simp only [u5, c5, c1, show List.range 5 = [0, 1, 2, 3, 4] from rfl]
  rw [if_pos (by rfl)]
  simp only [List.mapM_cons, List.mapM_nil, List.drop, List.take, Nat.mul_one]
  rw [litI m g0, litI m g1, litI m g2, litI m g3, litI m g4]
  rfl
theorem keyRd {n h0 h1 h2 h3 h4 f : Int} (g : 0 ≤ n ∧ n ≤ 1000000) (g0 : 0 ≤ h0 ∧ h0 ≤ 1000000) (g1 : 0 ≤ h1 ∧ h1 ≤ 1000000) (g2 : 0 ≤ h2 ∧ h2 ≤ 1000000) (g3 : 0 ≤ h3 ∧ h3 ≤ 1000000) (g4 : 0 ≤ h4 ∧ h4 ≤ 1000000) (gf : 0 ≤ f ∧ f ≤ 1000000) :
    ∃ l, keyOf Tryz.prog 79 (.agg #[.int .i64 n, .int .i64 h0, .int .i64 h1, .int .i64 h2, .int .i64 h3, .int .i64 h4, .int .i64 f]) = some l := by
  obtain ⟨m, hm⟩ := typesSize
  have c7 : Tryz.prog.cellsOf 79 = 7 := by kernel_rfl
  have c6 : Tryz.prog.cellsOf 77 = 6 := by kernel_rfl
  have c5 : Tryz.prog.cellsOf 75 = 5 := by kernel_rfl
  have c1 : Tryz.prog.cellsOf 3 = 1 := by kernel_rfl
  have hk : Tryz.prog.keyType 79 = true := by kernel_rfl
  have uR := Tryz.underlying79
  have uG := Tryz.underlying77
  have hA := litA (m + 0) g0 g1 g2 g3 g4
  have hG : Tryz.prog.keyLits (m + 3) 77 [.int .i64 n, .int .i64 h0, .int .i64 h1, .int .i64 h2, .int .i64 h3, .int .i64 h4] = some [.int .i64 n, .int .i64 h0, .int .i64 h1, .int .i64 h2, .int .i64 h3, .int .i64 h4] := by
    rw [show m + 3 = (m + 2) + 1 from rfl]
    conv => lhs; unfold Program.keyLits
    simp only [uG, c6]
    rw [if_pos (by exact ⟨rfl, by kernel_rfl⟩)]
    simp only [List.mapM_cons, List.mapM_nil, List.drop, List.take, c5, c1]
    rw [litI (m + 1) g, hA]
    rfl
  refine ⟨.string (keyBytes [.int .i64 n, .int .i64 h0, .int .i64 h1, .int .i64 h2, .int .i64 h3, .int .i64 h4, .int .i64 f]), ?_⟩
  unfold keyOf
  simp only [uR]
  rw [if_pos (by simp [hk, Value.formed, uR, c7]), hm]
  conv => lhs; unfold Program.keyLits
  simp only [uR, c7, Value.cells]
  rw [if_pos (by exact ⟨rfl, by kernel_rfl⟩)]
  simp only [List.mapM_cons, List.mapM_nil, List.drop, List.take, c6, c1]
  rw [hG, litI (m + 2) gf]
  rfl
theorem keyX_round : KeyX Tryz.prog 79 rdV WfR where
  law := lawRd
  has := fun r ⟨h7, hw⟩ => by
    obtain ⟨a, b, c, d, e, f, g, rfl⟩ := seven h7
    exact keyRd (hw _ (by simp)) (hw _ (by simp)) (hw _ (by simp)) (hw _ (by simp)) (hw _ (by simp)) (hw _ (by simp)) (hw _ (by simp))
  inj := fun x y _ _ h => by
    simp only [rdV, Value.agg.injEq, Array.mk.injEq] at h
    exact (List.map_inj_right (fun a b hab => by injection hab)).1 h
theorem keyX_int : KeyX Tryz.prog 3 (fun n : Nat => Value.int .i64 (n : Int)) (fun n => n ≤ 1000000) where
  law := Maps.int_keyed und_int
  has := fun n hn => ⟨_, Maps.keyOf_int_mk und_int (WalkArith.wf_i64 (by omega))⟩
  inj := fun x y _ _ h => by injection h with _ h; omega
theorem keyX_str : KeyX Tryz.prog 9 (fun s : List UInt8 => Value.string ⟨s.toArray⟩) (fun s => s.length ≤ 1000000) where
  law := Maps.string_keyed (by kernel_rfl)
  has := fun s hs => ⟨_, keyOf_string_mk (by kernel_rfl) (by simp [ByteArray.size, maxLen]; omega)⟩
  inj := fun x y _ _ h => by
    injection h with h
    injection h with h
    simpa using h
end Go.Proofs.YtfihpofdoffclaaGreatDoor

/- What the classes of states are: plain lists. -/
namespace Go.Proofs.YtfihpofdoffclaaGreatDoor
open Go.RowKit Go.ChangeMaps Go.MapKept Go.WideMaps

/-- The decimal digits of a number below 100. -/
def itoaL (p : Nat) : List UInt8 := if p < 10 then [UInt8.ofNat (48 + p)] else [UInt8.ofNat (48 + p / 10), UInt8.ofNat (48 + p % 10)]
theorem itoaL_len (p : Nat) : (itoaL p).length ≤ 2 := by unfold itoaL; split <;> simp
def itoaB (p : Nat) : ByteArray := ⟨(itoaL p).toArray⟩
theorem itoaB_small : ∀ p : Nat, p < 10 → digI (p : Int) = itoaB p := by decide +kernel

/-- The place of an element. -/
def ixOf {κ : Type} [DecidableEq κ] (l : List κ) (x : κ) : Nat := l.idxOf x
theorem ixOf_lt {κ : Type} [DecidableEq κ] {l : List κ} {x : κ} (h : x ∈ l) : ixOf l x < l.length := List.idxOf_lt_length_of_mem h
def mvTo (m : List Int) : Nat := (m.getD 7 0).toNat
def rdOf (m : List Int) : List Int := m.take 7
/-- The text of a move: the number of its round, and the label of its state. -/
def tx (R : List (List Int)) (out : List Nat) (m : List Int) : List UInt8 := itoaL (ixOf R (rdOf m)) ++ [58] ++ itoaL (out.getD (mvTo m) 0) ++ [59]
def txs (R : List (List Int)) (out : List Nat) (ms : List (List Int)) : List UInt8 := ms.flatMap (tx R out)
def allRd (ss : List (List (List Int))) : List (List Int) := ss.flatten.map rdOf
def natI (l : List Nat) : List Int := l.map (fun n : Nat => (n : Int))
/-- The texts of all states. -/
def keysL (ss : List (List (List Int))) (R : List (List Int)) (out : List Nat) : List (List UInt8) := ss.map (txs R out)
def clsGo (ss : List (List (List Int))) (R : List (List Int)) : Nat → List Nat → Nat → Option (List Nat)
  | 0, _, _ => none
  | f + 1, out, n => if (dd [] (keysL ss R out)).length = n then some (lbl (keysL ss R out)) else clsGo ss R f (lbl (keysL ss R out)) (dd [] (keysL ss R out)).length

theorem tx_len (R : List (List Int)) (out : List Nat) (m : List Int) : (tx R out m).length ≤ 6 ∧ 2 ≤ (tx R out m).length := by
  have h1 := itoaL_len (ixOf R (rdOf m)); have h2 := itoaL_len (out.getD (mvTo m) 0)
  unfold tx; simp only [List.length_append, List.length_cons, List.length_nil]; omega
theorem txs_len (R : List (List Int)) (out : List Nat) : ∀ ms : List (List Int), (txs R out ms).length ≤ 6 * ms.length
  | [] => by simp [txs]
  | m :: r => by
    have h := txs_len R out r; have h2 := (tx_len R out m).1
    show (tx R out m ++ txs R out r).length ≤ _
    rw [List.length_append, List.length_cons]; omega
theorem txs_ne {R : List (List Int)} {out : List Nat} {ms : List (List Int)} (h : 0 < ms.length) : txs R out ms ≠ [] := by
  cases ms with
  | nil => simp at h
  | cons m r =>
    intro e
    have h2 := (tx_len R out m).2
    have e2 : (tx R out m ++ txs R out r).length = 0 := by rw [show tx R out m ++ txs R out r = [] from e]; rfl
    rw [List.length_append] at e2; omega
theorem txs_step {R : List (List Int)} {out : List Nat} {ms : List (List Int)} {j : Nat} (h : j < ms.length) {m : List Int} (hm : ms.getD j [] = m) : txs R out (ms.take (j + 1)) = txs R out (ms.take j) ++ tx R out m := by
  rw [take_snoc h [], hm, txs, List.flatMap_append]; simp [txs]
theorem allRd_step {ss : List (List (List Int))} {i : Nat} (h : i < ss.length) {ms : List (List Int)} (hm : ss.getD i [] = ms) : allRd (ss.drop i) = (ms.drop 0).map rdOf ++ allRd (ss.drop (i + 1)) := by
  rw [drop_cons h [], hm, allRd, List.flatten_cons, List.map_append, List.drop_zero]; rfl
theorem keys_step {ss : List (List (List Int))} {R : List (List Int)} {out : List Nat} {i : Nat} (h : i < ss.length) {ms : List (List Int)} (hm : ss.getD i [] = ms) : keysL (ss.take (i + 1)) R out = keysL (ss.take i) R out ++ [txs R out ms] := by
  rw [take_snoc h [], hm, keysL, List.map_append]; rfl
theorem dd_new {κ : Type} [DecidableEq κ] {seen r : List κ} {x : κ} (h : x ∉ seen) : dd seen (x :: r) = dd (seen ++ [x]) r := by rw [dd, if_neg h]
theorem dd_old {κ : Type} [DecidableEq κ] {seen r : List κ} {x : κ} (h : x ∈ seen) : dd seen (x :: r) = dd seen r := by rw [dd, if_pos h]
theorem dd_idx {κ : Type} [DecidableEq κ] {seen r : List κ} {x : κ} (h : x ∈ seen) : ixOf (dd seen r) x = ixOf seen x := by
  obtain ⟨t, ht⟩ := dd_pre r seen
  rw [ht, ixOf, idxOf_pre h]; rfl
theorem dd_snoc {κ : Type} [DecidableEq κ] (a seen : List κ) (x : κ) : dd seen (a ++ [x]) = if x ∈ dd seen a then dd seen a else dd seen a ++ [x] := by
  rw [dd_app]
  by_cases h : x ∈ dd seen a
  · rw [if_pos h, dd_old h, dd]
  · rw [if_neg h, dd_new h, dd]

theorem dd_snoc_in {κ : Type} [DecidableEq κ] {a seen : List κ} {x : κ} (h : x ∈ dd seen a) : dd seen (a ++ [x]) = dd seen a := by rw [dd_snoc, if_pos h]
theorem dd_snoc_out {κ : Type} [DecidableEq κ] {a seen : List κ} {x : κ} (h : x ∉ dd seen a) : dd seen (a ++ [x]) = dd seen a ++ [x] := by rw [dd_snoc, if_neg h]

/-- A map that numbers what was seen. -/
def IM {κ : Type} (kv : κ → Value) (w : World) (b : Nat) (seen : List κ) : Prop := MX kv (fun n : Nat => Value.int .i64 (n : Int)) w b seen.zipIdx
section
variable {κ : Type} [DecidableEq κ] {P : Program} {K E M : TypeId} {kv : κ → Value} {S : κ → Prop} {seen : List κ} {x : κ} {w : World} {b : Nat}
omit [DecidableEq κ] in
theorem zipIdx_fst (l : List κ) : l.zipIdx.map Prod.fst = l := by simp [List.zipIdx_map_fst]
theorem zipIdx_snd {l : List κ} (hn : l.Nodup) {x : κ} {v : Nat} (h : (x, v) ∈ l.zipIdx) : v = ixOf l x := by
  rw [List.mk_mem_zipIdx_iff_getElem?] at h
  obtain ⟨hv, hx⟩ := List.getElem?_eq_some_iff.1 h
  rw [← hx]
  exact (hn.idxOf_getElem v hv).symm
omit [DecidableEq κ] in
theorem IM.keys (hs : ∀ y ∈ seen, S y) : ∀ p ∈ seen.zipIdx, S p.1 := fun p hp => hs _ (by have := List.mem_map_of_mem (f := Prod.fst) hp; rwa [zipIdx_fst] at this)
theorem IM.look (hX : KeyX P K kv S) (hM : P.underlying M = some (.map K E)) (hz : ∀ w, (zeroValue E).run P w = .ok (.int .i64 0) w) (h : IM kv w b seen) (hn : seen.Nodup) (hs : ∀ y ∈ seen, S y) (hx : S x) :
    (x ∉ seen ∧ (Instr.lookup M (.map (some b)) (kv x) false).run P w = .ok (.int .i64 0) w ∧ (Instr.lookup M (.map (some b)) (kv x) true).run P w = .ok (.tuple #[.int .i64 0, .bool false]) w) ∨
    (x ∈ seen ∧ (Instr.lookup M (.map (some b)) (kv x) false).run P w = .ok (.int .i64 (ixOf seen x : Nat)) w ∧ (Instr.lookup M (.map (some b)) (kv x) true).run P w = .ok (.tuple #[.int .i64 (ixOf seen x : Nat), .bool true]) w) := by
  rcases MX.look hX hM (hz w) h (IM.keys hs) hx with ⟨h1, h2⟩ | ⟨v, h1, h2⟩
  · rw [zipIdx_fst] at h1; exact .inl ⟨h1, h2⟩
  · have hv := zipIdx_snd hn h1
    subst hv
    exact .inr ⟨by have := List.mem_map_of_mem (f := Prod.fst) h1; rwa [zipIdx_fst] at this, h2⟩
omit [DecidableEq κ] in
theorem IM.put (hX : KeyX P K kv S) (hM : P.underlying M = some (.map K E)) (h : IM kv w b seen) (hs : ∀ y ∈ seen, S y) (hx : S x) (hn : x ∉ seen) :
    ∃ o, (Instr.mapUpdate M (.map (some b)) (kv x) (.int .i64 (seen.length : Nat))).run P w = .ok () (setBlock w b o) ∧ IM kv (setBlock w b o) b (seen ++ [x]) := by
  obtain ⟨o, h1, h2⟩ := MX.put hX hM h (IM.keys hs) hx (by rw [zipIdx_fst]; exact hn) seen.length
  refine ⟨o, h1, ?_⟩
  unfold IM
  rw [List.zipIdx_append]
  simpa using h2
omit [DecidableEq κ] in
theorem IM.len {ty : TypeId} (hM : P.underlying M = some (.map K E)) (h : IM kv w b seen) : (Builtin.len_ #[M] ty #[.map (some b)]).run P w = .ok (.int .i64 (seen.length : Nat)) w := by
  have := MX.len (ty := ty) hM h
  rwa [List.length_zipIdx] at this
omit [DecidableEq κ] in
theorem IM.lt (h : IM kv w b seen) : b < w.heap.size := MX.lt h
omit [DecidableEq κ] in
theorem IM.keep {w' : World} (h : IM kv w b seen) (hb : w'.heap[b]? = w.heap[b]?) : IM kv w' b seen := MX.keep h hb
end
end Go.Proofs.YtfihpofdoffclaaGreatDoor

/- strconv.Itoa of numbers below 100. -/
namespace Go.Proofs.YtfihpofdoffclaaGreatDoor
open Go.RowKit

set_option maxRecDepth 100000 in
set_option maxHeartbeats 400000 in
theorem small99 (p : Nat) (w : World) (h9 : p < 100) : Calls Tryz.prog 159 #[.int .i64 (p : Int)] w fun e w' => e = .returned (.string (itoaB p)) ∧ w = w' := by
  by_cases h : p < 10
  · rw [← itoaB_small p h]
    exact smallCall (p : Int) w (by omega) (by omega)
  · have hd : decide ((p : Int) < 10) = false := decide_eq_false (by omega)
    go_enter Tryz.func159, Tryz.ntmps159
    go_wp2
    go_ret
    refine ⟨congrArg (fun s => Ending.returned (Value.string s)) ?_, rfl⟩
    clear hd
    revert h h9
    revert p
    decide +kernel

set_option maxRecDepth 100000 in
set_option maxHeartbeats 400000 in
theorem fmtInt99 (p : Nat) (w : World) (h9 : p < 100) : Calls Tryz.prog 143 #[.int .i64 (p : Int), .int .i64 10] w fun e w' => e = .returned (.string (itoaB p)) ∧ Qt w w' := by
  go_enter Tryz.func143, Tryz.ntmps143
  go_wp2_with (go_at_call 159; refine (small99 p _ h9).mono ?_; rintro _ _ ⟨rfl, rfl⟩)
  go_ret
  exact ⟨rfl, Qt.refl _⟩
set_option maxRecDepth 100000 in
set_option maxHeartbeats 400000 in
theorem itoa199 (p : Nat) (w : World) (h9 : p < 100) : Calls Tryz.prog 123 #[.int .i64 (p : Int)] w fun e w' => e = .returned (.string (itoaB p)) ∧ Qt w w' := by
  go_enter Tryz.func123, Tryz.ntmps123
  go_wp2_with (go_at_call 143; refine (fmtInt99 p _ h9).mono ?_; rintro _ wr ⟨rfl, hq⟩)
  go_ret
  exact ⟨rfl, hq⟩
set_option maxRecDepth 100000 in
set_option maxHeartbeats 400000 in
theorem itoa99 (p : Nat) (w : World) (h9 : p < 100) : Calls Tryz.prog 82 #[.int .i64 (p : Int)] w fun e w' => e = .returned (.string (itoaB p)) ∧ Qt w w' := by
  go_enter Tryz.func82, Tryz.ntmps82
  go_wp2_with (go_at_call 123; refine (itoa199 p _ h9).mono ?_; rintro _ wr ⟨rfl, hq⟩)
  go_ret
  exact ⟨rfl, hq⟩
end Go.Proofs.YtfihpofdoffclaaGreatDoor

/- A text that grows: a Builder whose row lies beyond some block. -/
namespace Go.Proofs.YtfihpofdoffclaaGreatDoor
open Go.RowKit Go.ChangeMaps Go.MapKept

def BI (w : World) (lo b : Nat) (t : List UInt8) : Prop := ∃ p v, BA w b p v (Lib.byteCells t) ∧ PP b p ∧ ∀ k, v.ownBlock = some k → lo ≤ k
theorem BI.fresh (w : World) (lo : Nat) : BI (w.alloc (.cells #[.pointer none, .slice none 0 0] 118)) lo w.heap.size [] :=
  ⟨.pointer none, .slice none 0 0, ⟨heap_alloc_new w _, World.ownsRow_nil _ _ _ _, by simp [Value.ownBlock]⟩, .inl rfl, by intro k hk; cases hk⟩
theorem BI.lt {w : World} {lo b : Nat} {t : List UInt8} (h : BI w lo b t) : b < w.heap.size := by obtain ⟨p, v, h1, _⟩ := h; exact h1.lt
theorem BI.keep {w w' : World} {lo b : Nat} {t : List UInt8} {D : Nat → Prop} (h : BI w lo b t) (ho : Only D w w') (hb : ¬ D b) (hlo : ∀ k, lo ≤ k → ¬ D k) : BI w' lo b t := by
  obtain ⟨p, v, ⟨h1, h2, h3⟩, h4, h5⟩ := h
  refine ⟨p, v, ⟨(ho.same b (Array.getElem?_eq_some_iff.1 h1).1 hb).trans h1, ho.row h2 (fun k hk => hlo k (h5 k hk)), h3⟩, h4, h5⟩
theorem BI.keepB {w w' : World} {lo b : Nat} {t : List UInt8} (h : BI w lo b t) (hb : Below w.heap.size w w') : BI w' lo b t :=
  h.keep (Only.of_below (D := fun _ => False) hb) (fun h => h) (fun _ _ h => h)
theorem BI.write {w : World} {lo b : Nat} {t : List UInt8} (h : BI w lo b t) (hlo : lo ≤ w.heap.size) (s : ByteArray) (hn : t.length + s.size ≤ 1000000000) :
    Calls Tryz.prog 81 #[.pointer (some ⟨b, 0, none⟩), .string s] w fun e w' => e = .returned (.tuple #[.int .i64 s.size, .nilIface]) ∧ BI w' lo b (t ++ s.data.toList) ∧ Only (fun k => k = b ∨ lo ≤ k) w w' := by
  obtain ⟨p, v, h1, h2, h3⟩ := h
  refine (bWriteString h1 h2 s (by rw [Lib.byteCells_length]; exact hn)).mono ?_
  rintro e w' ⟨rfl, v', k1, k2, k3⟩
  refine ⟨rfl, ⟨_, v', ?_, .inr rfl, ?_⟩, k2.mono fun k hk => ?_⟩
  · rw [Lib.byteCells_append, ← Lib.strCells_eq]; exact k1
  · intro k hk
    rcases k3 with e | e
    · rw [e] at hk; exact h3 k hk
    · exact Nat.le_trans hlo (e k hk)
  · rcases hk with h | h
    · exact .inl h
    · exact .inr (h3 k h)
theorem BI.string {w : World} {lo b : Nat} {t : List UInt8} (h : BI w lo b t) (h0 : t ≠ []) :
    Calls Tryz.prog 83 #[.pointer (some ⟨b, 0, none⟩)] w fun e w' => e = .returned (.string ⟨t.toArray⟩) ∧ Only (fun k => lo ≤ k) w w' := by
  obtain ⟨p, v, h1, h2, h3⟩ := h
  refine (bString h1 h0).mono ?_
  rintro e w' ⟨rfl, k1⟩
  exact ⟨rfl, k1.mono fun k hk => h3 k hk⟩
/-- A turned map. -/
theorem Only.setBlk {D : Nat → Prop} {A W : World} (h : Only D A W) {b : Nat} (hb : D b) (o : Obj) : Only D A (setBlock W b o) :=
  ⟨h.os, h.tape, h.output, by simpa [setBlock] using h.size, fun k hk hd => (setBlock_keep o (fun e => hd (by rw [e]; exact hb))).trans (h.same k hk hd)⟩
theorem wp_region_qtail {P : Program} {id : Nat} {Q : Exit → Act → World → Prop} {a : Act} {w : World} {l : List Oper} (n : Nat) (hm : P.follows .mixedOrders = true) (hB : qtB n l = true) (hg : noGuard l = true)
    (hQ : ¬ LetsOut Q) (h : ∀ ops', wpQuiet P ops' (fun w' => ∃ k, w' = w.drewN k) (fun a' => ∀ k, wpList P l.toArray Q (l.drop n) a' (w.drewN k)) (l.take n) a) :
    (Code.region id l.toArray true).wp P Q a w :=
  wp_region_any hm (any_qtail n hB hg (h _) hQ)
end Go.Proofs.YtfihpofdoffclaaGreatDoor

/- Graphs: Check of the program and of the reference. -/
namespace Go.Proofs.YtfihpofdoffclaaGreatDoor
open Go.RowKit

theorem powN (n : Int) (h1 : 1 ≤ n) (h5 : n ≤ 5) : n = 1 ∨ n = 2 ∨ n = 3 ∨ n = 4 ∨ n = 5 := by omega
/-- 2^n - 1, for a number of processes. -/
def fullI (n : Int) : Int := if n = 1 then 1 else if n = 2 then 3 else if n = 3 then 7 else if n = 4 then 15 else 31
theorem fullI_le (n : Int) : 1 ≤ fullI n ∧ fullI n ≤ 31 := by unfold fullI; split; omega; split; omega; split; omega; split; omega; omega
/-- 2^p, for a process. -/
def twoI (p : Int) : Int := if p = 0 then 1 else if p = 1 then 2 else if p = 2 then 4 else if p = 3 then 8 else if p = 4 then 16 else 32
theorem fullCall (n : Int) (w : World) (h1 : 1 ≤ n) (h5 : n ≤ 5) : Calls Tryz.prog 157 #[.int .i64 n] w fun e w' => e = .returned (.int .i64 (fullI n)) ∧ w = w' := by
  rcases powN n h1 h5 with rfl | rfl | rfl | rfl | rfl <;>
  · go_enter Tryz.func157, Tryz.ntmps157
    go_wp2
    go_ret
    exact ⟨rfl, rfl⟩
theorem powerCall (n : Int) (w : World) (h1 : 0 ≤ n) (h5 : n ≤ 5) : Calls Tryz.prog 154 #[.int .i64 n] w fun e w' => e = .returned (.int .i64 (twoI n)) ∧ w = w' := by
  go_enter Tryz.func154, Tryz.ntmps154
  go_wp2
  go_loop [3, 4] (fun o i => ∃ k : Int, 0 ≤ k ∧ k ≤ n ∧ i = .int .i64 k ∧ o = .int .i64 (twoI k)) (fun _ i => (n - intOf i).toNat)
  case atStart => exact ⟨0, by omega, by omega, rfl, rfl⟩
  case round =>
    obtain ⟨k, hk0, hk, rfl, rfl⟩ := hrel
    by_cases hlt : k < n
    · have hs : twoI (k + 1) = twoI k * 2 := by
        have : k = 0 ∨ k = 1 ∨ k = 2 ∨ k = 3 ∨ k = 4 := by omega
        rcases this with rfl | rfl | rfl | rfl | rfl <;> decide
      have hb : 1 ≤ twoI k ∧ twoI k ≤ 32 := by unfold twoI; split; omega; split; omega; split; omega; split; omega; split; omega; omega
      obtain ⟨hb1, hb2⟩ := hb
      obtain ⟨t, ht⟩ : ∃ t, twoI k = t := ⟨_, rfl⟩
      rw [ht] at hs hb1 hb2 ⊢
      replace hs := Lib.hid hs
      clear ht
      go_wp2
      go_round
      case rel => exact ⟨k + 1, by omega, by omega, rfl, by rw [hs.out]⟩
      case measure => simp [intOf]; omega
    · obtain rfl : k = n := by omega
      go_wp2
      go_ret
      exact ⟨rfl, rfl⟩
theorem refFull (n : Int) (w : World) (h1 : 1 ≤ n) (h5 : n ≤ 5) : Calls Tryz.prog 152 #[.int .i64 n] w fun e w' => e = .returned (.int .i64 (fullI n)) ∧ w = w' := by
  have H := Lib.hid (powerCall n w (by omega) h5)
  have e : fullI n = twoI n - 1 := by rcases powN n h1 h5 with rfl | rfl | rfl | rfl | rfl <;> decide
  have hb : 1 ≤ twoI n ∧ twoI n ≤ 32 := by rcases powN n h1 h5 with rfl | rfl | rfl | rfl | rfl <;> decide
  obtain ⟨hb1, hb2⟩ := hb
  obtain ⟨t, ht⟩ : ∃ t, twoI n = t := ⟨_, rfl⟩
  rw [ht] at e hb1 hb2 H
  replace e := Lib.hid e
  clear ht
  go_enter Tryz.func152, Tryz.ntmps152
  go_wp2_with (go_at_call 154; refine H.out.mono ?_; rintro e w' ⟨rfl, rfl⟩)
  go_ret
  exact ⟨ret_int e.out.symm, rfl⟩
def hasI (x p : Int) : Bool := x / twoI p % 2 == 1
theorem refHas (x p : Int) (w : World) (h0 : 0 ≤ x) (hx : x ≤ 1000000) (h1 : 0 ≤ p) (h5 : p ≤ 5) : Calls Tryz.prog 132 #[.int .i64 x, .int .i64 p] w fun e w' => e = .returned (.bool (hasI x p)) ∧ w = w' := by
  have H := Lib.hid (powerCall p w h1 h5)
  have hb : 1 ≤ twoI p ∧ twoI p ≤ 32 := by unfold twoI; split; omega; split; omega; split; omega; split; omega; split; omega; omega
  obtain ⟨hb1, hb2⟩ := hb
  have e := Lib.hid (show hasI x p = (x / twoI p % 2 == 1) from rfl)
  obtain ⟨t, ht⟩ : ∃ t, twoI p = t := ⟨_, rfl⟩
  rw [ht] at e hb1 hb2 H
  have ht0 : t ≠ 0 := by omega
  have hq1 : 0 ≤ x / t := Int.ediv_nonneg h0 (by omega)
  have hq2 : x / t ≤ 1000000 := Int.le_trans (Int.ediv_le_self _ h0) hx
  clear ht
  go_enter Tryz.func132, Tryz.ntmps132
  go_wp2_with (go_at_call 154; refine H.out.mono ?_; rintro e w' ⟨rfl, rfl⟩)
  go_ret
  exact ⟨ret_bool e.out.symm, rfl⟩
def procE (n : Int) : Int := if n < 1 ∨ 5 < n then 1 else 0
theorem refProcs (n : Int) (w : World) : Calls Tryz.prog 153 #[.int .i64 n] w fun e w' => e = .returned (.int .i64 (procE n)) ∧ w = w' := by
  by_cases h1 : n < 1
  · go_enter Tryz.func153, Tryz.ntmps153
    go_wp2
    go_ret
    exact ⟨ret_int (by rw [procE, if_pos (.inl h1)]), rfl⟩
  · have h1' : decide (n < 1) = false := by simpa using h1
    by_cases h5 : 5 < n
    · go_enter Tryz.func153, Tryz.ntmps153
      go_wp2
      go_ret
      exact ⟨ret_int (by rw [procE, if_pos (.inr h5)]), rfl⟩
    · have h5' : decide (5 < n) = false := by simpa using h5
      go_enter Tryz.func153, Tryz.ntmps153
      go_wp2
      go_ret
      exact ⟨ret_int (by rw [procE, if_neg (by omega)]), rfl⟩
theorem procs (n : Int) (w : World) : Calls Tryz.prog 158 #[.int .i64 n] w fun e w' => e = .returned (.int .i64 (procE n)) ∧ w = w' := by
  by_cases h1 : n < 1
  · go_enter Tryz.func158, Tryz.ntmps158
    go_wp2
    go_ret
    exact ⟨ret_int (by rw [procE, if_pos (.inl h1)]), rfl⟩
  · have h1' : decide (n < 1) = false := by simpa using h1
    by_cases h5 : 5 < n
    · go_enter Tryz.func158, Tryz.ntmps158
      go_wp2
      go_ret
      exact ⟨ret_int (by rw [procE, if_pos (.inr h5)]), rfl⟩
    · have h5' : decide (5 < n) = false := by simpa using h5
      go_enter Tryz.func158, Tryz.ntmps158
      go_wp2
      go_ret
      exact ⟨ret_int (by rw [procE, if_neg (by omega)]), rfl⟩
/-- The error of one row of a graph. -/
def hErr (n p x : Int) : Int := if n ≤ p then (if x = 0 then 0 else 3) else if x < 0 ∨ fullI n < x then 2 else if hasI x p then 0 else 3
def hGo (n : Int) : Int → List Int → Int
  | _, [] => 0
  | p, x :: r => if hErr n p x ≠ 0 then hErr n p x else hGo n (p + 1) r
def chkGr (n : Int) (hs : List Int) : Int := if n < 1 ∨ 5 < n then 2 else hGo n 0 hs
/-- The error of a set of n processes. -/
def chkSet (n x : Int) : Int := if procE n ≠ 0 then 1 else if x < 0 ∨ twoI n ≤ x then 2 else 0
theorem and1_ok : ((List.range 32).all fun x => (List.range 5).all fun p => decide (bits .and .i64 ((x : Int) / twoI p) 1 = if hasI x p then 1 else 0)) = true := by decide +kernel
theorem and1 {x p : Int} (h0 : 0 ≤ x) (h1 : x ≤ 31) (hp0 : 0 ≤ p) (hp : p ≤ 4) : bits .and .i64 (x / twoI p) 1 = if hasI x p then 1 else 0 := by
  have := List.all_eq_true.1 (List.all_eq_true.1 and1_ok x.toNat (by rw [List.mem_range]; omega)) p.toNat (by rw [List.mem_range]; omega)
  have := of_decide_eq_true this
  rwa [show ((x.toNat : Nat) : Int) = x by omega, show ((p.toNat : Nat) : Int) = p by omega] at this
end Go.Proofs.YtfihpofdoffclaaGreatDoor

/- Graphs, sets, rounds: Check of the program and of the reference. -/
namespace Go.Proofs.YtfihpofdoffclaaGreatDoor
open Go.RowKit

theorem ix0 (a b c d e : Value) (w : World) : (Instr.index 75 (.agg #[a, b, c, d, e]) (.int .i64 0)).run Tryz.prog w = .ok a w := by kernel_rfl
theorem ix1 (a b c d e : Value) (w : World) : (Instr.index 75 (.agg #[a, b, c, d, e]) (.int .i64 1)).run Tryz.prog w = .ok b w := by kernel_rfl
theorem ix2 (a b c d e : Value) (w : World) : (Instr.index 75 (.agg #[a, b, c, d, e]) (.int .i64 2)).run Tryz.prog w = .ok c w := by kernel_rfl
theorem ix3 (a b c d e : Value) (w : World) : (Instr.index 75 (.agg #[a, b, c, d, e]) (.int .i64 3)).run Tryz.prog w = .ok d w := by kernel_rfl
theorem ix4 (a b c d e : Value) (w : World) : (Instr.index 75 (.agg #[a, b, c, d, e]) (.int .i64 4)).run Tryz.prog w = .ok e w := by kernel_rfl
theorem hGo_step {n : Int} {p x : Int} {r : List Int} (h : hErr n p x = 0) : hGo n p (x :: r) = hGo n (p + 1) r := by rw [hGo, if_neg (fun k => k h)]
theorem hGo_stop {n : Int} {p x : Int} {r : List Int} (h : hErr n p x ≠ 0) : hGo n p (x :: r) = hErr n p x := by rw [hGo, if_pos h]
theorem hErr_1 {n p x : Int} (h : n ≤ p) (hx : x = 0) : hErr n p x = 0 := by rw [hErr, if_pos h, if_pos hx]
theorem hErr_2 {n p x : Int} (h : n ≤ p) (hx : ¬ x = 0) : hErr n p x = 3 := by rw [hErr, if_pos h, if_neg hx]
theorem hErr_3 {n p x : Int} (h : p < n) (hx : x < 0 ∨ fullI n < x) : hErr n p x = 2 := by rw [hErr, if_neg (by omega), if_pos hx]
theorem hErr_4 {n p x : Int} (h : p < n) (hx : 0 ≤ x ∧ x ≤ fullI n) (hb : hasI x p = false) : hErr n p x = 3 := by rw [hErr, if_neg (by omega), if_neg (by omega), hb]; rfl
theorem hErr_5 {n p x : Int} (h : p < n) (hx : 0 ≤ x ∧ x ≤ fullI n) (hb : hasI x p = true) : hErr n p x = 0 := by rw [hErr, if_neg (by omega), if_neg (by omega), hb]; rfl

set_option maxRecDepth 100000 in
set_option maxHeartbeats 3200000 in
theorem graphCheck (n h0 h1 h2 h3 h4 : Int) (w : World) : Calls Tryz.prog 140 #[.agg #[.int .i64 n, .int .i64 h0, .int .i64 h1, .int .i64 h2, .int .i64 h3, .int .i64 h4]] w fun e w' => e = .returned (.int .i64 (chkGr n [h0, h1, h2, h3, h4])) ∧ Below w.heap.size w w' := by
  by_cases hn : n < 1 ∨ 5 < n
  · have hE := Lib.hid (show chkGr n [h0, h1, h2, h3, h4] = 2 by rw [chkGr, if_pos hn])
    by_cases hn1 : n < 1
    · go_enter Tryz.func140, Tryz.ntmps140
      go_wp2
      go_ret
      exact ⟨ret_int hE.out.symm, (Below.refl _ _).alloc (Nat.le_refl _) _⟩
    · have hn1' : decide (n < 1) = false := by simpa using hn1
      have hn5 : 5 < n := by omega
      go_enter Tryz.func140, Tryz.ntmps140
      go_wp2
      go_ret
      exact ⟨ret_int hE.out.symm, (Below.refl _ _).alloc (Nat.le_refl _) _⟩
  · have hn1 : decide (n < 1) = false := decide_eq_false (by omega)
    have hn5 : decide (5 < n) = false := decide_eq_false (by omega)
    obtain ⟨E, hE⟩ : ∃ E, chkGr n [h0, h1, h2, h3, h4] = E := ⟨_, rfl⟩
    have hE0 := Lib.hid (show hGo n 0 [h0, h1, h2, h3, h4] = E by rw [← hE, chkGr, if_neg hn])
    rw [hE]
    have g1 : 1 ≤ n := by omega
    have g5 : n ≤ 5 := by omega
    have hF := fun W => fullCall n W g1 g5
    obtain ⟨f1, f31⟩ := fullI_le n
    obtain ⟨F, hFe⟩ : ∃ F, fullI n = F := ⟨_, rfl⟩
    rw [hFe] at f1 f31
    simp only [hFe] at hF
    replace hF := Lib.hid hF
    replace hFe := Lib.hid hFe
    clear hn hE
    go_enter Tryz.func140, Tryz.ntmps140
    go_wp2
    have hb := (Below.refl w.heap.size w).alloc (Nat.le_refl _) (.cells #[.int .i64 n, .int .i64 h0, .int .i64 h1, .int .i64 h2, .int .i64 h3, .int .i64 h4] 77)
    go_loop [15] (fun iv => ∃ k : Int, iv = .int .i64 k ∧ ((k = 0 ∧ Hid (hGo n 0 [h0, h1, h2, h3, h4] = E)) ∨ (k = 1 ∧ Hid (hGo n 1 [h1, h2, h3, h4] = E)) ∨ (k = 2 ∧ Hid (hGo n 2 [h2, h3, h4] = E)) ∨ (k = 3 ∧ Hid (hGo n 3 [h3, h4] = E)) ∨ (k = 4 ∧ Hid (hGo n 4 [h4] = E)) ∨ (k = 5 ∧ Hid (hGo n 5 [] = E)))) (fun iv => 5 - (intOf iv).toNat)
    case atStart => exact ⟨0, rfl, .inl ⟨rfl, hE0⟩⟩
    case round =>
      clear hE0
      obtain ⟨k, rfl, hk⟩ := hrel
      rcases hk with ⟨rfl, hg⟩ | ⟨rfl, hg⟩ | ⟨rfl, hg⟩ | ⟨rfl, hg⟩ | ⟨rfl, hg⟩ | ⟨rfl, hg⟩
      · have hix := ix0 (.int .i64 h0) (.int .i64 h1) (.int .i64 h2) (.int .i64 h3) (.int .i64 h4)
        by_cases hp0 : n ≤ 0
        · have hp := Lib.hid hp0
          have hp1 : decide (n ≤ 0) = true := decide_eq_true hp0
          clear hp0
          by_cases hx : h0 = 0
          · have hx' : (h0 != 0) = false := by simp [hx]
            replace hx := Lib.hid hx
            go_wp2
            go_round
            case rel => exact ⟨1, rfl, .inr (.inl ⟨rfl, by show _ = _; rw [← hg.out, hGo_step (hErr_1 hp.out hx.out)]; rfl⟩)⟩
            case measure => simp [intOf]
          · have hx' : (h0 != 0) = true := by simpa using hx
            replace hx := Lib.hid hx
            go_wp2
            go_ret
            exact ⟨ret_int (by rw [← hg.out, hGo_stop (by rw [hErr_2 hp.out hx.out]; decide), hErr_2 hp.out hx.out]), hb⟩
        · have hp := Lib.hid (show 0 < n by omega)
          have hp1 : decide (n ≤ 0) = false := decide_eq_false hp0
          clear hp0
          by_cases hx0 : h0 < 0
          · have hx := Lib.hid (show h0 < 0 ∨ fullI n < h0 from .inl hx0)
            go_wp2
            go_ret
            exact ⟨ret_int (by rw [← hg.out, hGo_stop (by rw [hErr_3 hp.out hx.out]; decide), hErr_3 hp.out hx.out]), hb⟩
          · have hx0' : decide (h0 < 0) = false := decide_eq_false hx0
            by_cases hx1 : F < h0
            · have hx := Lib.hid (show h0 < 0 ∨ fullI n < h0 from .inr (by rw [hFe.out]; exact hx1))
              go_wp2_with (first | (go_at_call 157; refine (hF.out _).mono ?_; rintro e w1 ⟨rfl, rfl⟩))
              go_ret
              exact ⟨ret_int (by rw [← hg.out, hGo_stop (by rw [hErr_3 hp.out hx.out]; decide), hErr_3 hp.out hx.out]), hb⟩
            · have hx1' : decide (F < h0) = false := decide_eq_false hx1
              have hx := Lib.hid (show 0 ≤ h0 ∧ h0 ≤ fullI n by rw [hFe.out]; omega)
              have ha := and1 (x := h0) (p := 0) (by omega) (by omega) (by omega) (by omega)
              by_cases hbit : hasI h0 0 = true
              · rw [hbit, if_pos rfl] at ha
                rw [show twoI 0 = 1 from rfl, Int.ediv_one] at ha
                replace hbit := Lib.hid hbit
                go_wp2_with (first | (go_at_call 157; refine (hF.out _).mono ?_; rintro e w1 ⟨rfl, rfl⟩))
                go_round
                case rel => exact ⟨1, rfl, .inr (.inl ⟨rfl, by show _ = _; rw [← hg.out, hGo_step (hErr_5 hp.out hx.out hbit.out)]; rfl⟩)⟩
                case measure => simp [intOf]
              · replace hbit := eq_false_of_ne_true hbit
                rw [hbit, if_neg (by decide)] at ha
                rw [show twoI 0 = 1 from rfl, Int.ediv_one] at ha
                replace hbit := Lib.hid hbit
                go_wp2_with (first | (go_at_call 157; refine (hF.out _).mono ?_; rintro e w1 ⟨rfl, rfl⟩))
                go_ret
                exact ⟨ret_int (by rw [← hg.out, hGo_stop (by rw [hErr_4 hp.out hx.out hbit.out]; decide), hErr_4 hp.out hx.out hbit.out]), hb⟩
      · have hix := ix1 (.int .i64 h0) (.int .i64 h1) (.int .i64 h2) (.int .i64 h3) (.int .i64 h4)
        by_cases hp0 : n ≤ 1
        · have hp := Lib.hid hp0
          have hp1 : decide (n ≤ 1) = true := decide_eq_true hp0
          clear hp0
          by_cases hx : h1 = 0
          · have hx' : (h1 != 0) = false := by simp [hx]
            replace hx := Lib.hid hx
            go_wp2
            go_round
            case rel => exact ⟨2, rfl, .inr (.inr (.inl ⟨rfl, by show _ = _; rw [← hg.out, hGo_step (hErr_1 hp.out hx.out)]; rfl⟩))⟩
            case measure => simp [intOf]
          · have hx' : (h1 != 0) = true := by simpa using hx
            replace hx := Lib.hid hx
            go_wp2
            go_ret
            exact ⟨ret_int (by rw [← hg.out, hGo_stop (by rw [hErr_2 hp.out hx.out]; decide), hErr_2 hp.out hx.out]), hb⟩
        · have hp := Lib.hid (show 1 < n by omega)
          have hp1 : decide (n ≤ 1) = false := decide_eq_false hp0
          clear hp0
          by_cases hx0 : h1 < 0
          · have hx := Lib.hid (show h1 < 0 ∨ fullI n < h1 from .inl hx0)
            go_wp2
            go_ret
            exact ⟨ret_int (by rw [← hg.out, hGo_stop (by rw [hErr_3 hp.out hx.out]; decide), hErr_3 hp.out hx.out]), hb⟩
          · have hx0' : decide (h1 < 0) = false := decide_eq_false hx0
            by_cases hx1 : F < h1
            · have hx := Lib.hid (show h1 < 0 ∨ fullI n < h1 from .inr (by rw [hFe.out]; exact hx1))
              go_wp2_with (first | (go_at_call 157; refine (hF.out _).mono ?_; rintro e w1 ⟨rfl, rfl⟩))
              go_ret
              exact ⟨ret_int (by rw [← hg.out, hGo_stop (by rw [hErr_3 hp.out hx.out]; decide), hErr_3 hp.out hx.out]), hb⟩
            · have hx1' : decide (F < h1) = false := decide_eq_false hx1
              have hx := Lib.hid (show 0 ≤ h1 ∧ h1 ≤ fullI n by rw [hFe.out]; omega)
              have ha := and1 (x := h1) (p := 1) (by omega) (by omega) (by omega) (by omega)
              by_cases hbit : hasI h1 1 = true
              · rw [hbit, if_pos rfl] at ha
                rw [show twoI 1 = 2 from rfl] at ha
                replace hbit := Lib.hid hbit
                go_wp2_with (first | (go_at_call 157; refine (hF.out _).mono ?_; rintro e w1 ⟨rfl, rfl⟩))
                go_round
                case rel => exact ⟨2, rfl, .inr (.inr (.inl ⟨rfl, by show _ = _; rw [← hg.out, hGo_step (hErr_5 hp.out hx.out hbit.out)]; rfl⟩))⟩
                case measure => simp [intOf]
              · replace hbit := eq_false_of_ne_true hbit
                rw [hbit, if_neg (by decide)] at ha
                rw [show twoI 1 = 2 from rfl] at ha
                replace hbit := Lib.hid hbit
                go_wp2_with (first | (go_at_call 157; refine (hF.out _).mono ?_; rintro e w1 ⟨rfl, rfl⟩))
                go_ret
                exact ⟨ret_int (by rw [← hg.out, hGo_stop (by rw [hErr_4 hp.out hx.out hbit.out]; decide), hErr_4 hp.out hx.out hbit.out]), hb⟩
      · have hix := ix2 (.int .i64 h0) (.int .i64 h1) (.int .i64 h2) (.int .i64 h3) (.int .i64 h4)
        by_cases hp0 : n ≤ 2
        · have hp := Lib.hid hp0
          have hp1 : decide (n ≤ 2) = true := decide_eq_true hp0
          clear hp0
          by_cases hx : h2 = 0
          · have hx' : (h2 != 0) = false := by simp [hx]
            replace hx := Lib.hid hx
            go_wp2
            go_round
            case rel => exact ⟨3, rfl, .inr (.inr (.inr (.inl ⟨rfl, by show _ = _; rw [← hg.out, hGo_step (hErr_1 hp.out hx.out)]; rfl⟩)))⟩
            case measure => simp [intOf]
          · have hx' : (h2 != 0) = true := by simpa using hx
            replace hx := Lib.hid hx
            go_wp2
            go_ret
            exact ⟨ret_int (by rw [← hg.out, hGo_stop (by rw [hErr_2 hp.out hx.out]; decide), hErr_2 hp.out hx.out]), hb⟩
        · have hp := Lib.hid (show 2 < n by omega)
          have hp1 : decide (n ≤ 2) = false := decide_eq_false hp0
          clear hp0
          by_cases hx0 : h2 < 0
          · have hx := Lib.hid (show h2 < 0 ∨ fullI n < h2 from .inl hx0)
            go_wp2
            go_ret
            exact ⟨ret_int (by rw [← hg.out, hGo_stop (by rw [hErr_3 hp.out hx.out]; decide), hErr_3 hp.out hx.out]), hb⟩
          · have hx0' : decide (h2 < 0) = false := decide_eq_false hx0
            by_cases hx1 : F < h2
            · have hx := Lib.hid (show h2 < 0 ∨ fullI n < h2 from .inr (by rw [hFe.out]; exact hx1))
              go_wp2_with (first | (go_at_call 157; refine (hF.out _).mono ?_; rintro e w1 ⟨rfl, rfl⟩))
              go_ret
              exact ⟨ret_int (by rw [← hg.out, hGo_stop (by rw [hErr_3 hp.out hx.out]; decide), hErr_3 hp.out hx.out]), hb⟩
            · have hx1' : decide (F < h2) = false := decide_eq_false hx1
              have hx := Lib.hid (show 0 ≤ h2 ∧ h2 ≤ fullI n by rw [hFe.out]; omega)
              have ha := and1 (x := h2) (p := 2) (by omega) (by omega) (by omega) (by omega)
              by_cases hbit : hasI h2 2 = true
              · rw [hbit, if_pos rfl] at ha
                rw [show twoI 2 = 4 from rfl] at ha
                replace hbit := Lib.hid hbit
                go_wp2_with (first | (go_at_call 157; refine (hF.out _).mono ?_; rintro e w1 ⟨rfl, rfl⟩))
                go_round
                case rel => exact ⟨3, rfl, .inr (.inr (.inr (.inl ⟨rfl, by show _ = _; rw [← hg.out, hGo_step (hErr_5 hp.out hx.out hbit.out)]; rfl⟩)))⟩
                case measure => simp [intOf]
              · replace hbit := eq_false_of_ne_true hbit
                rw [hbit, if_neg (by decide)] at ha
                rw [show twoI 2 = 4 from rfl] at ha
                replace hbit := Lib.hid hbit
                go_wp2_with (first | (go_at_call 157; refine (hF.out _).mono ?_; rintro e w1 ⟨rfl, rfl⟩))
                go_ret
                exact ⟨ret_int (by rw [← hg.out, hGo_stop (by rw [hErr_4 hp.out hx.out hbit.out]; decide), hErr_4 hp.out hx.out hbit.out]), hb⟩
      · have hix := ix3 (.int .i64 h0) (.int .i64 h1) (.int .i64 h2) (.int .i64 h3) (.int .i64 h4)
        by_cases hp0 : n ≤ 3
        · have hp := Lib.hid hp0
          have hp1 : decide (n ≤ 3) = true := decide_eq_true hp0
          clear hp0
          by_cases hx : h3 = 0
          · have hx' : (h3 != 0) = false := by simp [hx]
            replace hx := Lib.hid hx
            go_wp2
            go_round
            case rel => exact ⟨4, rfl, .inr (.inr (.inr (.inr (.inl ⟨rfl, by show _ = _; rw [← hg.out, hGo_step (hErr_1 hp.out hx.out)]; rfl⟩))))⟩
            case measure => simp [intOf]
          · have hx' : (h3 != 0) = true := by simpa using hx
            replace hx := Lib.hid hx
            go_wp2
            go_ret
            exact ⟨ret_int (by rw [← hg.out, hGo_stop (by rw [hErr_2 hp.out hx.out]; decide), hErr_2 hp.out hx.out]), hb⟩
        · have hp := Lib.hid (show 3 < n by omega)
          have hp1 : decide (n ≤ 3) = false := decide_eq_false hp0
          clear hp0
          by_cases hx0 : h3 < 0
          · have hx := Lib.hid (show h3 < 0 ∨ fullI n < h3 from .inl hx0)
            go_wp2
            go_ret
            exact ⟨ret_int (by rw [← hg.out, hGo_stop (by rw [hErr_3 hp.out hx.out]; decide), hErr_3 hp.out hx.out]), hb⟩
          · have hx0' : decide (h3 < 0) = false := decide_eq_false hx0
            by_cases hx1 : F < h3
            · have hx := Lib.hid (show h3 < 0 ∨ fullI n < h3 from .inr (by rw [hFe.out]; exact hx1))
              go_wp2_with (first | (go_at_call 157; refine (hF.out _).mono ?_; rintro e w1 ⟨rfl, rfl⟩))
              go_ret
              exact ⟨ret_int (by rw [← hg.out, hGo_stop (by rw [hErr_3 hp.out hx.out]; decide), hErr_3 hp.out hx.out]), hb⟩
            · have hx1' : decide (F < h3) = false := decide_eq_false hx1
              have hx := Lib.hid (show 0 ≤ h3 ∧ h3 ≤ fullI n by rw [hFe.out]; omega)
              have ha := and1 (x := h3) (p := 3) (by omega) (by omega) (by omega) (by omega)
              by_cases hbit : hasI h3 3 = true
              · rw [hbit, if_pos rfl] at ha
                rw [show twoI 3 = 8 from rfl] at ha
                replace hbit := Lib.hid hbit
                go_wp2_with (first | (go_at_call 157; refine (hF.out _).mono ?_; rintro e w1 ⟨rfl, rfl⟩))
                go_round
                case rel => exact ⟨4, rfl, .inr (.inr (.inr (.inr (.inl ⟨rfl, by show _ = _; rw [← hg.out, hGo_step (hErr_5 hp.out hx.out hbit.out)]; rfl⟩))))⟩
                case measure => simp [intOf]
              · replace hbit := eq_false_of_ne_true hbit
                rw [hbit, if_neg (by decide)] at ha
                rw [show twoI 3 = 8 from rfl] at ha
                replace hbit := Lib.hid hbit
                go_wp2_with (first | (go_at_call 157; refine (hF.out _).mono ?_; rintro e w1 ⟨rfl, rfl⟩))
                go_ret
                exact ⟨ret_int (by rw [← hg.out, hGo_stop (by rw [hErr_4 hp.out hx.out hbit.out]; decide), hErr_4 hp.out hx.out hbit.out]), hb⟩
      · have hix := ix4 (.int .i64 h0) (.int .i64 h1) (.int .i64 h2) (.int .i64 h3) (.int .i64 h4)
        by_cases hp0 : n ≤ 4
        · have hp := Lib.hid hp0
          have hp1 : decide (n ≤ 4) = true := decide_eq_true hp0
          clear hp0
          by_cases hx : h4 = 0
          · have hx' : (h4 != 0) = false := by simp [hx]
            replace hx := Lib.hid hx
            go_wp2
            go_round
            case rel => exact ⟨5, rfl, .inr (.inr (.inr (.inr (.inr (⟨rfl, by show _ = _; rw [← hg.out, hGo_step (hErr_1 hp.out hx.out)]; rfl⟩)))))⟩
            case measure => simp [intOf]
          · have hx' : (h4 != 0) = true := by simpa using hx
            replace hx := Lib.hid hx
            go_wp2
            go_ret
            exact ⟨ret_int (by rw [← hg.out, hGo_stop (by rw [hErr_2 hp.out hx.out]; decide), hErr_2 hp.out hx.out]), hb⟩
        · have hp := Lib.hid (show 4 < n by omega)
          have hp1 : decide (n ≤ 4) = false := decide_eq_false hp0
          clear hp0
          by_cases hx0 : h4 < 0
          · have hx := Lib.hid (show h4 < 0 ∨ fullI n < h4 from .inl hx0)
            go_wp2
            go_ret
            exact ⟨ret_int (by rw [← hg.out, hGo_stop (by rw [hErr_3 hp.out hx.out]; decide), hErr_3 hp.out hx.out]), hb⟩
          · have hx0' : decide (h4 < 0) = false := decide_eq_false hx0
            by_cases hx1 : F < h4
            · have hx := Lib.hid (show h4 < 0 ∨ fullI n < h4 from .inr (by rw [hFe.out]; exact hx1))
              go_wp2_with (first | (go_at_call 157; refine (hF.out _).mono ?_; rintro e w1 ⟨rfl, rfl⟩))
              go_ret
              exact ⟨ret_int (by rw [← hg.out, hGo_stop (by rw [hErr_3 hp.out hx.out]; decide), hErr_3 hp.out hx.out]), hb⟩
            · have hx1' : decide (F < h4) = false := decide_eq_false hx1
              have hx := Lib.hid (show 0 ≤ h4 ∧ h4 ≤ fullI n by rw [hFe.out]; omega)
              have ha := and1 (x := h4) (p := 4) (by omega) (by omega) (by omega) (by omega)
              by_cases hbit : hasI h4 4 = true
              · rw [hbit, if_pos rfl] at ha
                rw [show twoI 4 = 16 from rfl] at ha
                replace hbit := Lib.hid hbit
                go_wp2_with (first | (go_at_call 157; refine (hF.out _).mono ?_; rintro e w1 ⟨rfl, rfl⟩))
                go_round
                case rel => exact ⟨5, rfl, .inr (.inr (.inr (.inr (.inr (⟨rfl, by show _ = _; rw [← hg.out, hGo_step (hErr_5 hp.out hx.out hbit.out)]; rfl⟩)))))⟩
                case measure => simp [intOf]
              · replace hbit := eq_false_of_ne_true hbit
                rw [hbit, if_neg (by decide)] at ha
                rw [show twoI 4 = 16 from rfl] at ha
                replace hbit := Lib.hid hbit
                go_wp2_with (first | (go_at_call 157; refine (hF.out _).mono ?_; rintro e w1 ⟨rfl, rfl⟩))
                go_ret
                exact ⟨ret_int (by rw [← hg.out, hGo_stop (by rw [hErr_4 hp.out hx.out hbit.out]; decide), hErr_4 hp.out hx.out hbit.out]), hb⟩
      · go_wp2
        go_ret
        exact ⟨ret_int (by rw [← hg.out]; rfl), hb⟩

set_option maxRecDepth 100000 in
set_option maxHeartbeats 3200000 in
theorem refGraphCheck (n h0 h1 h2 h3 h4 : Int) (w : World) : Calls Tryz.prog 129 #[.agg #[.int .i64 n, .int .i64 h0, .int .i64 h1, .int .i64 h2, .int .i64 h3, .int .i64 h4]] w fun e w' => e = .returned (.int .i64 (chkGr n [h0, h1, h2, h3, h4])) ∧ Below w.heap.size w w' := by
  by_cases hn : n < 1 ∨ 5 < n
  · have hE := Lib.hid (show chkGr n [h0, h1, h2, h3, h4] = 2 by rw [chkGr, if_pos hn])
    by_cases hn1 : n < 1
    · go_enter Tryz.func129, Tryz.ntmps129
      go_wp2
      go_ret
      exact ⟨ret_int hE.out.symm, (Below.refl _ _).alloc (Nat.le_refl _) _⟩
    · have hn1' : decide (n < 1) = false := by simpa using hn1
      have hn5 : 5 < n := by omega
      go_enter Tryz.func129, Tryz.ntmps129
      go_wp2
      go_ret
      exact ⟨ret_int hE.out.symm, (Below.refl _ _).alloc (Nat.le_refl _) _⟩
  · have hn1 : decide (n < 1) = false := decide_eq_false (by omega)
    have hn5 : decide (5 < n) = false := decide_eq_false (by omega)
    obtain ⟨E, hE⟩ : ∃ E, chkGr n [h0, h1, h2, h3, h4] = E := ⟨_, rfl⟩
    have hE0 := Lib.hid (show hGo n 0 [h0, h1, h2, h3, h4] = E by rw [← hE, chkGr, if_neg hn])
    rw [hE]
    have g1 : 1 ≤ n := by omega
    have g5 : n ≤ 5 := by omega
    have hF := fun W => refFull n W g1 g5
    obtain ⟨f1, f31⟩ := fullI_le n
    obtain ⟨F, hFe⟩ : ∃ F, fullI n = F := ⟨_, rfl⟩
    rw [hFe] at f1 f31
    simp only [hFe] at hF
    replace hF := Lib.hid hF
    replace hFe := Lib.hid hFe
    clear hn hE
    go_enter Tryz.func129, Tryz.ntmps129
    go_wp2
    have hb := (Below.refl w.heap.size w).alloc (Nat.le_refl _) (.cells #[.int .i64 n, .int .i64 h0, .int .i64 h1, .int .i64 h2, .int .i64 h3, .int .i64 h4] 77)
    go_loop [3] (fun iv => ∃ k : Int, iv = .int .i64 k ∧ ((k = 0 ∧ Hid (hGo n 0 [h0, h1, h2, h3, h4] = E)) ∨ (k = 1 ∧ Hid (hGo n 1 [h1, h2, h3, h4] = E)) ∨ (k = 2 ∧ Hid (hGo n 2 [h2, h3, h4] = E)) ∨ (k = 3 ∧ Hid (hGo n 3 [h3, h4] = E)) ∨ (k = 4 ∧ Hid (hGo n 4 [h4] = E)) ∨ (k = 5 ∧ Hid (hGo n 5 [] = E)))) (fun iv => 5 - (intOf iv).toNat)
    case atStart => exact ⟨0, rfl, .inl ⟨rfl, hE0⟩⟩
    case round =>
      clear hE0
      obtain ⟨k, rfl, hk⟩ := hrel
      rcases hk with ⟨rfl, hg⟩ | ⟨rfl, hg⟩ | ⟨rfl, hg⟩ | ⟨rfl, hg⟩ | ⟨rfl, hg⟩ | ⟨rfl, hg⟩
      · have hix := ix0 (.int .i64 h0) (.int .i64 h1) (.int .i64 h2) (.int .i64 h3) (.int .i64 h4)
        by_cases hp0 : n ≤ 0
        · have hp := Lib.hid hp0
          have hp1 : decide (n ≤ 0) = true := decide_eq_true hp0
          clear hp0
          by_cases hx : h0 = 0
          · have hx' : (h0 != 0) = false := by simp [hx]
            replace hx := Lib.hid hx
            go_wp2
            go_round
            case rel => exact ⟨1, rfl, .inr (.inl ⟨rfl, by show _ = _; rw [← hg.out, hGo_step (hErr_1 hp.out hx.out)]; rfl⟩)⟩
            case measure => simp [intOf]
          · have hx' : (h0 != 0) = true := by simpa using hx
            replace hx := Lib.hid hx
            go_wp2
            go_ret
            exact ⟨ret_int (by rw [← hg.out, hGo_stop (by rw [hErr_2 hp.out hx.out]; decide), hErr_2 hp.out hx.out]), hb⟩
        · have hp := Lib.hid (show 0 < n by omega)
          have hp1 : decide (n ≤ 0) = false := decide_eq_false hp0
          clear hp0
          by_cases hx0 : h0 < 0
          · have hx := Lib.hid (show h0 < 0 ∨ fullI n < h0 from .inl hx0)
            go_wp2
            go_ret
            exact ⟨ret_int (by rw [← hg.out, hGo_stop (by rw [hErr_3 hp.out hx.out]; decide), hErr_3 hp.out hx.out]), hb⟩
          · have hx0' : decide (h0 < 0) = false := decide_eq_false hx0
            by_cases hx1 : F < h0
            · have hx := Lib.hid (show h0 < 0 ∨ fullI n < h0 from .inr (by rw [hFe.out]; exact hx1))
              go_wp2_with (first | (go_at_call 152; refine (hF.out _).mono ?_; rintro e w1 ⟨rfl, rfl⟩) | (go_at_call 132; refine (refHas _ _ _ (by omega) (by omega) (by omega) (by omega)).mono ?_; rintro e w2 ⟨rfl, rfl⟩; rw [hbit]))
              go_ret
              exact ⟨ret_int (by rw [← hg.out, hGo_stop (by rw [hErr_3 hp.out hx.out]; decide), hErr_3 hp.out hx.out]), hb⟩
            · have hx1' : decide (F < h0) = false := decide_eq_false hx1
              have hx := Lib.hid (show 0 ≤ h0 ∧ h0 ≤ fullI n by rw [hFe.out]; omega)
              have ha := and1 (x := h0) (p := 0) (by omega) (by omega) (by omega) (by omega)
              by_cases hbit : hasI h0 0 = true
              · clear ha
                go_wp2_with (first | (go_at_call 152; refine (hF.out _).mono ?_; rintro e w1 ⟨rfl, rfl⟩) | (go_at_call 132; refine (refHas _ _ _ (by omega) (by omega) (by omega) (by omega)).mono ?_; rintro e w2 ⟨rfl, rfl⟩; rw [hbit]))
                go_round
                case rel => exact ⟨1, rfl, .inr (.inl ⟨rfl, by show _ = _; rw [← hg.out, hGo_step (hErr_5 hp.out hx.out hbit)]; rfl⟩)⟩
                case measure => simp [intOf]
              · replace hbit := eq_false_of_ne_true hbit
                clear ha
                go_wp2_with (first | (go_at_call 152; refine (hF.out _).mono ?_; rintro e w1 ⟨rfl, rfl⟩) | (go_at_call 132; refine (refHas _ _ _ (by omega) (by omega) (by omega) (by omega)).mono ?_; rintro e w2 ⟨rfl, rfl⟩; rw [hbit]))
                go_ret
                exact ⟨ret_int (by rw [← hg.out, hGo_stop (by rw [hErr_4 hp.out hx.out hbit]; decide), hErr_4 hp.out hx.out hbit]), hb⟩
      · have hix := ix1 (.int .i64 h0) (.int .i64 h1) (.int .i64 h2) (.int .i64 h3) (.int .i64 h4)
        by_cases hp0 : n ≤ 1
        · have hp := Lib.hid hp0
          have hp1 : decide (n ≤ 1) = true := decide_eq_true hp0
          clear hp0
          by_cases hx : h1 = 0
          · have hx' : (h1 != 0) = false := by simp [hx]
            replace hx := Lib.hid hx
            go_wp2
            go_round
            case rel => exact ⟨2, rfl, .inr (.inr (.inl ⟨rfl, by show _ = _; rw [← hg.out, hGo_step (hErr_1 hp.out hx.out)]; rfl⟩))⟩
            case measure => simp [intOf]
          · have hx' : (h1 != 0) = true := by simpa using hx
            replace hx := Lib.hid hx
            go_wp2
            go_ret
            exact ⟨ret_int (by rw [← hg.out, hGo_stop (by rw [hErr_2 hp.out hx.out]; decide), hErr_2 hp.out hx.out]), hb⟩
        · have hp := Lib.hid (show 1 < n by omega)
          have hp1 : decide (n ≤ 1) = false := decide_eq_false hp0
          clear hp0
          by_cases hx0 : h1 < 0
          · have hx := Lib.hid (show h1 < 0 ∨ fullI n < h1 from .inl hx0)
            go_wp2
            go_ret
            exact ⟨ret_int (by rw [← hg.out, hGo_stop (by rw [hErr_3 hp.out hx.out]; decide), hErr_3 hp.out hx.out]), hb⟩
          · have hx0' : decide (h1 < 0) = false := decide_eq_false hx0
            by_cases hx1 : F < h1
            · have hx := Lib.hid (show h1 < 0 ∨ fullI n < h1 from .inr (by rw [hFe.out]; exact hx1))
              go_wp2_with (first | (go_at_call 152; refine (hF.out _).mono ?_; rintro e w1 ⟨rfl, rfl⟩) | (go_at_call 132; refine (refHas _ _ _ (by omega) (by omega) (by omega) (by omega)).mono ?_; rintro e w2 ⟨rfl, rfl⟩; rw [hbit]))
              go_ret
              exact ⟨ret_int (by rw [← hg.out, hGo_stop (by rw [hErr_3 hp.out hx.out]; decide), hErr_3 hp.out hx.out]), hb⟩
            · have hx1' : decide (F < h1) = false := decide_eq_false hx1
              have hx := Lib.hid (show 0 ≤ h1 ∧ h1 ≤ fullI n by rw [hFe.out]; omega)
              have ha := and1 (x := h1) (p := 1) (by omega) (by omega) (by omega) (by omega)
              by_cases hbit : hasI h1 1 = true
              · clear ha
                go_wp2_with (first | (go_at_call 152; refine (hF.out _).mono ?_; rintro e w1 ⟨rfl, rfl⟩) | (go_at_call 132; refine (refHas _ _ _ (by omega) (by omega) (by omega) (by omega)).mono ?_; rintro e w2 ⟨rfl, rfl⟩; rw [hbit]))
                go_round
                case rel => exact ⟨2, rfl, .inr (.inr (.inl ⟨rfl, by show _ = _; rw [← hg.out, hGo_step (hErr_5 hp.out hx.out hbit)]; rfl⟩))⟩
                case measure => simp [intOf]
              · replace hbit := eq_false_of_ne_true hbit
                clear ha
                go_wp2_with (first | (go_at_call 152; refine (hF.out _).mono ?_; rintro e w1 ⟨rfl, rfl⟩) | (go_at_call 132; refine (refHas _ _ _ (by omega) (by omega) (by omega) (by omega)).mono ?_; rintro e w2 ⟨rfl, rfl⟩; rw [hbit]))
                go_ret
                exact ⟨ret_int (by rw [← hg.out, hGo_stop (by rw [hErr_4 hp.out hx.out hbit]; decide), hErr_4 hp.out hx.out hbit]), hb⟩
      · have hix := ix2 (.int .i64 h0) (.int .i64 h1) (.int .i64 h2) (.int .i64 h3) (.int .i64 h4)
        by_cases hp0 : n ≤ 2
        · have hp := Lib.hid hp0
          have hp1 : decide (n ≤ 2) = true := decide_eq_true hp0
          clear hp0
          by_cases hx : h2 = 0
          · have hx' : (h2 != 0) = false := by simp [hx]
            replace hx := Lib.hid hx
            go_wp2
            go_round
            case rel => exact ⟨3, rfl, .inr (.inr (.inr (.inl ⟨rfl, by show _ = _; rw [← hg.out, hGo_step (hErr_1 hp.out hx.out)]; rfl⟩)))⟩
            case measure => simp [intOf]
          · have hx' : (h2 != 0) = true := by simpa using hx
            replace hx := Lib.hid hx
            go_wp2
            go_ret
            exact ⟨ret_int (by rw [← hg.out, hGo_stop (by rw [hErr_2 hp.out hx.out]; decide), hErr_2 hp.out hx.out]), hb⟩
        · have hp := Lib.hid (show 2 < n by omega)
          have hp1 : decide (n ≤ 2) = false := decide_eq_false hp0
          clear hp0
          by_cases hx0 : h2 < 0
          · have hx := Lib.hid (show h2 < 0 ∨ fullI n < h2 from .inl hx0)
            go_wp2
            go_ret
            exact ⟨ret_int (by rw [← hg.out, hGo_stop (by rw [hErr_3 hp.out hx.out]; decide), hErr_3 hp.out hx.out]), hb⟩
          · have hx0' : decide (h2 < 0) = false := decide_eq_false hx0
            by_cases hx1 : F < h2
            · have hx := Lib.hid (show h2 < 0 ∨ fullI n < h2 from .inr (by rw [hFe.out]; exact hx1))
              go_wp2_with (first | (go_at_call 152; refine (hF.out _).mono ?_; rintro e w1 ⟨rfl, rfl⟩) | (go_at_call 132; refine (refHas _ _ _ (by omega) (by omega) (by omega) (by omega)).mono ?_; rintro e w2 ⟨rfl, rfl⟩; rw [hbit]))
              go_ret
              exact ⟨ret_int (by rw [← hg.out, hGo_stop (by rw [hErr_3 hp.out hx.out]; decide), hErr_3 hp.out hx.out]), hb⟩
            · have hx1' : decide (F < h2) = false := decide_eq_false hx1
              have hx := Lib.hid (show 0 ≤ h2 ∧ h2 ≤ fullI n by rw [hFe.out]; omega)
              have ha := and1 (x := h2) (p := 2) (by omega) (by omega) (by omega) (by omega)
              by_cases hbit : hasI h2 2 = true
              · clear ha
                go_wp2_with (first | (go_at_call 152; refine (hF.out _).mono ?_; rintro e w1 ⟨rfl, rfl⟩) | (go_at_call 132; refine (refHas _ _ _ (by omega) (by omega) (by omega) (by omega)).mono ?_; rintro e w2 ⟨rfl, rfl⟩; rw [hbit]))
                go_round
                case rel => exact ⟨3, rfl, .inr (.inr (.inr (.inl ⟨rfl, by show _ = _; rw [← hg.out, hGo_step (hErr_5 hp.out hx.out hbit)]; rfl⟩)))⟩
                case measure => simp [intOf]
              · replace hbit := eq_false_of_ne_true hbit
                clear ha
                go_wp2_with (first | (go_at_call 152; refine (hF.out _).mono ?_; rintro e w1 ⟨rfl, rfl⟩) | (go_at_call 132; refine (refHas _ _ _ (by omega) (by omega) (by omega) (by omega)).mono ?_; rintro e w2 ⟨rfl, rfl⟩; rw [hbit]))
                go_ret
                exact ⟨ret_int (by rw [← hg.out, hGo_stop (by rw [hErr_4 hp.out hx.out hbit]; decide), hErr_4 hp.out hx.out hbit]), hb⟩
      · have hix := ix3 (.int .i64 h0) (.int .i64 h1) (.int .i64 h2) (.int .i64 h3) (.int .i64 h4)
        by_cases hp0 : n ≤ 3
        · have hp := Lib.hid hp0
          have hp1 : decide (n ≤ 3) = true := decide_eq_true hp0
          clear hp0
          by_cases hx : h3 = 0
          · have hx' : (h3 != 0) = false := by simp [hx]
            replace hx := Lib.hid hx
            go_wp2
            go_round
            case rel => exact ⟨4, rfl, .inr (.inr (.inr (.inr (.inl ⟨rfl, by show _ = _; rw [← hg.out, hGo_step (hErr_1 hp.out hx.out)]; rfl⟩))))⟩
            case measure => simp [intOf]
          · have hx' : (h3 != 0) = true := by simpa using hx
            replace hx := Lib.hid hx
            go_wp2
            go_ret
            exact ⟨ret_int (by rw [← hg.out, hGo_stop (by rw [hErr_2 hp.out hx.out]; decide), hErr_2 hp.out hx.out]), hb⟩
        · have hp := Lib.hid (show 3 < n by omega)
          have hp1 : decide (n ≤ 3) = false := decide_eq_false hp0
          clear hp0
          by_cases hx0 : h3 < 0
          · have hx := Lib.hid (show h3 < 0 ∨ fullI n < h3 from .inl hx0)
            go_wp2
            go_ret
            exact ⟨ret_int (by rw [← hg.out, hGo_stop (by rw [hErr_3 hp.out hx.out]; decide), hErr_3 hp.out hx.out]), hb⟩
          · have hx0' : decide (h3 < 0) = false := decide_eq_false hx0
            by_cases hx1 : F < h3
            · have hx := Lib.hid (show h3 < 0 ∨ fullI n < h3 from .inr (by rw [hFe.out]; exact hx1))
              go_wp2_with (first | (go_at_call 152; refine (hF.out _).mono ?_; rintro e w1 ⟨rfl, rfl⟩) | (go_at_call 132; refine (refHas _ _ _ (by omega) (by omega) (by omega) (by omega)).mono ?_; rintro e w2 ⟨rfl, rfl⟩; rw [hbit]))
              go_ret
              exact ⟨ret_int (by rw [← hg.out, hGo_stop (by rw [hErr_3 hp.out hx.out]; decide), hErr_3 hp.out hx.out]), hb⟩
            · have hx1' : decide (F < h3) = false := decide_eq_false hx1
              have hx := Lib.hid (show 0 ≤ h3 ∧ h3 ≤ fullI n by rw [hFe.out]; omega)
              have ha := and1 (x := h3) (p := 3) (by omega) (by omega) (by omega) (by omega)
              by_cases hbit : hasI h3 3 = true
              · clear ha
                go_wp2_with (first | (go_at_call 152; refine (hF.out _).mono ?_; rintro e w1 ⟨rfl, rfl⟩) | (go_at_call 132; refine (refHas _ _ _ (by omega) (by omega) (by omega) (by omega)).mono ?_; rintro e w2 ⟨rfl, rfl⟩; rw [hbit]))
                go_round
                case rel => exact ⟨4, rfl, .inr (.inr (.inr (.inr (.inl ⟨rfl, by show _ = _; rw [← hg.out, hGo_step (hErr_5 hp.out hx.out hbit)]; rfl⟩))))⟩
                case measure => simp [intOf]
              · replace hbit := eq_false_of_ne_true hbit
                clear ha
                go_wp2_with (first | (go_at_call 152; refine (hF.out _).mono ?_; rintro e w1 ⟨rfl, rfl⟩) | (go_at_call 132; refine (refHas _ _ _ (by omega) (by omega) (by omega) (by omega)).mono ?_; rintro e w2 ⟨rfl, rfl⟩; rw [hbit]))
                go_ret
                exact ⟨ret_int (by rw [← hg.out, hGo_stop (by rw [hErr_4 hp.out hx.out hbit]; decide), hErr_4 hp.out hx.out hbit]), hb⟩
      · have hix := ix4 (.int .i64 h0) (.int .i64 h1) (.int .i64 h2) (.int .i64 h3) (.int .i64 h4)
        by_cases hp0 : n ≤ 4
        · have hp := Lib.hid hp0
          have hp1 : decide (n ≤ 4) = true := decide_eq_true hp0
          clear hp0
          by_cases hx : h4 = 0
          · have hx' : (h4 != 0) = false := by simp [hx]
            replace hx := Lib.hid hx
            go_wp2
            go_round
            case rel => exact ⟨5, rfl, .inr (.inr (.inr (.inr (.inr (⟨rfl, by show _ = _; rw [← hg.out, hGo_step (hErr_1 hp.out hx.out)]; rfl⟩)))))⟩
            case measure => simp [intOf]
          · have hx' : (h4 != 0) = true := by simpa using hx
            replace hx := Lib.hid hx
            go_wp2
            go_ret
            exact ⟨ret_int (by rw [← hg.out, hGo_stop (by rw [hErr_2 hp.out hx.out]; decide), hErr_2 hp.out hx.out]), hb⟩
        · have hp := Lib.hid (show 4 < n by omega)
          have hp1 : decide (n ≤ 4) = false := decide_eq_false hp0
          clear hp0
          by_cases hx0 : h4 < 0
          · have hx := Lib.hid (show h4 < 0 ∨ fullI n < h4 from .inl hx0)
            go_wp2
            go_ret
            exact ⟨ret_int (by rw [← hg.out, hGo_stop (by rw [hErr_3 hp.out hx.out]; decide), hErr_3 hp.out hx.out]), hb⟩
          · have hx0' : decide (h4 < 0) = false := decide_eq_false hx0
            by_cases hx1 : F < h4
            · have hx := Lib.hid (show h4 < 0 ∨ fullI n < h4 from .inr (by rw [hFe.out]; exact hx1))
              go_wp2_with (first | (go_at_call 152; refine (hF.out _).mono ?_; rintro e w1 ⟨rfl, rfl⟩) | (go_at_call 132; refine (refHas _ _ _ (by omega) (by omega) (by omega) (by omega)).mono ?_; rintro e w2 ⟨rfl, rfl⟩; rw [hbit]))
              go_ret
              exact ⟨ret_int (by rw [← hg.out, hGo_stop (by rw [hErr_3 hp.out hx.out]; decide), hErr_3 hp.out hx.out]), hb⟩
            · have hx1' : decide (F < h4) = false := decide_eq_false hx1
              have hx := Lib.hid (show 0 ≤ h4 ∧ h4 ≤ fullI n by rw [hFe.out]; omega)
              have ha := and1 (x := h4) (p := 4) (by omega) (by omega) (by omega) (by omega)
              by_cases hbit : hasI h4 4 = true
              · clear ha
                go_wp2_with (first | (go_at_call 152; refine (hF.out _).mono ?_; rintro e w1 ⟨rfl, rfl⟩) | (go_at_call 132; refine (refHas _ _ _ (by omega) (by omega) (by omega) (by omega)).mono ?_; rintro e w2 ⟨rfl, rfl⟩; rw [hbit]))
                go_round
                case rel => exact ⟨5, rfl, .inr (.inr (.inr (.inr (.inr (⟨rfl, by show _ = _; rw [← hg.out, hGo_step (hErr_5 hp.out hx.out hbit)]; rfl⟩)))))⟩
                case measure => simp [intOf]
              · replace hbit := eq_false_of_ne_true hbit
                clear ha
                go_wp2_with (first | (go_at_call 152; refine (hF.out _).mono ?_; rintro e w1 ⟨rfl, rfl⟩) | (go_at_call 132; refine (refHas _ _ _ (by omega) (by omega) (by omega) (by omega)).mono ?_; rintro e w2 ⟨rfl, rfl⟩; rw [hbit]))
                go_ret
                exact ⟨ret_int (by rw [← hg.out, hGo_stop (by rw [hErr_4 hp.out hx.out hbit]; decide), hErr_4 hp.out hx.out hbit]), hb⟩
      · go_wp2
        go_ret
        exact ⟨ret_int (by rw [← hg.out]; rfl), hb⟩

end Go.Proofs.YtfihpofdoffclaaGreatDoor
