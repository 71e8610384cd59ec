/- The walks of strings.Builder's methods. -/
import Derived.Test.YtpjlaaldepfnkaaDoorBu
import Derived.Shelf.Strings.Builder1
namespace Go.Proofs.YtpjlaaldepfnkaaDoor
open Go.RowKit

theorem und106 : Tryd.prog.underlying 106 = some (.pointer 109) := by kernel_rfl
theorem und142 : Tryd.prog.underlying 142 = some .unsafePointer := by kernel_rfl
theorem size109 : (Tryd.prog.info? 109).map (·.size) = some 2 := by kernel_rfl
theorem lies109 : liesAt Tryd.prog Tryd.prog.depth 109 (2 / Tryd.prog.cellsOf 109) 0 109 1 = true := by kernel_rfl

/-- A builder that has been written, or one that has not. -/
def BA (w : World) (b : Nat) (p v : Value) (bs : List Value) : Prop := w.heap[b]? = some (.cells #[p, v] 109 (0, 0)) ∧ w.ownsRow 0 5 1 v bs.length bs ∧ v.ownBlock ≠ some b
def selfP (b : Nat) : Value := .pointer (some ⟨b, 0, none⟩)

theorem two_set0 {w : World} {b : Nat} {p v u : Value} {t : TypeId} (h : w.heap[b]? = some (.cells #[p, v] t (0, 0))) : (w.setCell ⟨b, 0, none⟩ u).heap[b]? = some (.cells #[u, v] t (0, 0)) := by
  rw [heap_setCell_same w b 0 #[p, v] t u h]; rfl
theorem two_set1 {w : World} {b : Nat} {p v u : Value} {t : TypeId} (h : w.heap[b]? = some (.cells #[p, v] t (0, 0))) : (w.setCell ⟨b, 1, none⟩ u).heap[b]? = some (.cells #[p, u] t (0, 0)) := by
  rw [heap_setCell_same w b 1 #[p, v] t u h]; rfl
theorem BA.c0 {w : World} {b : Nat} {p v : Value} {bs : List Value} (h : BA w b p v bs) : w.cell? ⟨b, 0, none⟩ = some p := by rw [cell_of_row w b 0 _ _ _ h.1]; rfl
theorem BA.c1 {w : World} {b : Nat} {p v : Value} {bs : List Value} (h : BA w b p v bs) : w.cell? ⟨b, 1, none⟩ = some v := by rw [cell_of_row w b 1 _ _ _ h.1]; rfl
theorem BA.fz {w : World} {b : Nat} {p v : Value} {bs : List Value} (h : BA w b p v bs) (j : Nat) : w.frozen? ⟨b, j, none⟩ = false := frozen_of_row w b j _ _ h.1
theorem BA.lt {w : World} {b : Nat} {p v : Value} {bs : List Value} (h : BA w b p v bs) : b < w.heap.size := (Array.getElem?_eq_some_iff.1 h.1).1

set_option maxRecDepth 100000 in
set_option maxHeartbeats 800000 in
theorem bCheckFresh {w : World} {b : Nat} {v : Value} {bs : List Value} (h : BA w b (.pointer none) v bs) :
    Calls Tryd.prog 98 #[.pointer (some ⟨b, 0, none⟩)] w fun e w' => e = .returned (.tuple #[]) ∧ w' = w.setCell ⟨b, 0, none⟩ (selfP b) := by
  obtain ⟨j, hj, hjs⟩ := Option.map_eq_some_iff.1 size109
  have h0 := h.c0
  have hfz := h.fz 0
  have hsh : w.shape? b = some (109, 2) := by simp [World.shape?, h.1]
  go_enter Tryd.func98, Tryd.ntmps98
  go_wp2
  rw [Lib.run_to_unsafe w ⟨b, 0, none⟩ und106 und142 hj (by rw [hjs]; decide) hsh (Nat.zero_lt_succ 1)]
  simp only [Result.andThen]
  rw [Oper.upon_value]
  go_wp2
  rw [run_callFunc_extern Tryd.func114 (by kernel_rfl) (by kernel_rfl) (by kernel_rfl) (e := Extern.AbiNoEscape.same) (by kernel_rfl)]
  rw [Lib.run_noEscape]
  simp only [Result.andThen]
  rw [Oper.upon_value]
  go_wp2
  rw [Lib.run_from_unsafe w ⟨b, 0, none⟩ und142 und106 hj hsh lies109]
  simp only [Result.andThen]
  rw [Oper.upon_value]
  go_wp2
  go_end0
  exact ⟨rfl, rfl⟩

set_option maxRecDepth 100000 in
set_option maxHeartbeats 800000 in
theorem bCheckUsed {w : World} {b : Nat} {v : Value} {bs : List Value} (h : BA w b (.pointer (some ⟨b, 0, none⟩)) v bs) :
    Calls Tryd.prog 98 #[.pointer (some ⟨b, 0, none⟩)] w fun e w' => e = .returned (.tuple #[]) ∧ w' = w := by
  obtain ⟨j, hj, hjs⟩ := Option.map_eq_some_iff.1 size109
  have h0 := h.c0
  go_enter Tryd.func98, Tryd.ntmps98
  go_wp2
  rw [Lib.run_neq_ptr_same w _ und106 hj]
  go_wp2
  go_end0
  exact ⟨rfl, rfl⟩

def PP (b : Nat) (p : Value) : Prop := p = .pointer none ∨ p = .pointer (some ⟨b, 0, none⟩)

theorem BA.used {w : World} {b : Nat} {p v : Value} {bs : List Value} (h : BA w b p v bs) (q : Value) : BA (w.setCell ⟨b, 0, none⟩ q) b q v bs :=
  ⟨two_set0 h.1, h.2.1.kept (row := some b) ⟨rfl, rfl, rfl, by simp [World.setCell], fun k _ hk => Below.heap_setCell _ _ _ _ (fun e => hk (by simp [e]))⟩ (.inr h.2.2), h.2.2⟩

/-- copyCheck. -/
theorem bCheck {w : World} {b : Nat} {p v : Value} {bs : List Value} (h : BA w b p v bs) (hp : PP b p) :
    Calls Tryd.prog 98 #[.pointer (some ⟨b, 0, none⟩)] w fun e w' => e = .returned (.tuple #[]) ∧ BA w' b (selfP b) v bs ∧ Only (fun k => k = b) w w' := by
  rcases hp with rfl | rfl
  · refine (bCheckFresh h).mono ?_
    rintro e w' ⟨rfl, rfl⟩
    exact ⟨rfl, h.used _, (Only.refl (fun k => k = b) w).setCell (p := ⟨b, 0, none⟩) rfl _⟩
  · refine (bCheckUsed h).mono ?_
    rintro e w' ⟨rfl, rfl⟩
    exact ⟨rfl, h, Only.refl _ _⟩

theorem BA.put {w : World} {b : Nat} {p v v' : Value} {bs' : List Value} (hb : w.heap[b]? = some (.cells #[p, v] 109 (0, 0))) (hown : w.ownsRow 0 5 1 v' bs'.length bs') : BA (w.setCell ⟨b, 1, none⟩ v') b p v' bs' := by
  have hne : v'.ownBlock ≠ some b := Lib.ownBlock_ne hown hb (by decide)
  exact ⟨two_set1 hb, hown.kept (row := some b) ⟨rfl, rfl, rfl, by simp [World.setCell], fun k _ hk => Below.heap_setCell _ _ _ _ (fun e => hk (by simp [e]))⟩ (.inr hne), hne⟩

theorem wpAppStr {w : World} {ops : Array Oper} {rest : List Oper} {o : Oper} {a : Act} {Q : Exit → Act → World → Prop} (hgd : o.guard = none) (s x : Operand)
    (ho : o.op = .call { callee := .builtin .append, args := #[s, x], argTypes := #[107, 9] }) (v : Value) (n : Nat) (xs : List Value) (hs : a.eval s = v) (hown : w.ownsRow 0 5 1 v n xs) (t : ByteArray) (hx : a.eval x = .string t) (hb : n + t.size ≤ 1000000000)
    (h : ∀ v' w', w'.ownsRow 0 5 1 v' (n + t.size) (xs ++ Lib.strCells t) → w.grownBy w' v.ownBlock → NewBlk w v v' → wpList Tryd.prog ops Q rest (a.put o.dst v') w') : wpList Tryd.prog ops Q (o :: rest) a w := by
  refine wpList_plain hgd fun K hK => ?_
  obtain ⟨v', w', hr, h2, h3, h4⟩ := run_app_str w o.type v n xs hown t hb
  unfold Oper.wp execOp
  simp only [ho, resolve, invoke, builtin, Sem.run_bind, Sem.run_pure, Result.andThen_ok, List.map_toArray, List.map_cons, List.map_nil, hs, hx, hr]
  exact hK _ _ (h v' w' h2 h3 h4)

theorem wpAppOne {w : World} {ops : Array Oper} {rest : List Oper} {o : Oper} {a : Act} {Q : Exit → Act → World → Prop} (hgd : o.guard = none) (s x : Operand)
    (ho : o.op = .call { callee := .builtin .append, args := #[s, x], argTypes := #[107, 107] }) (v : Value) (n : Nat) (xs : List Value) (hs : a.eval s = v) (hown : w.ownsRow 0 5 1 v n xs) (y : Value) (t : TypeId) (hy1 : y.oneCell' = true) (c : Nat) (hx : a.eval x = .slice (some ⟨w.heap.size, 0, none⟩) 1 c) (hb : n + 1 ≤ 1000000000)
    (h : ∀ v' w', w'.ownsRow 0 5 1 v' (n + 1) (xs ++ [y]) → w.grownBy w' v.ownBlock → NewBlk w v v' → wpList Tryd.prog ops Q rest (a.put o.dst v') w') : wpList Tryd.prog ops Q (o :: rest) a (w.alloc (.cells #[y] t)) := by
  refine wpList_plain hgd fun K hK => ?_
  obtain ⟨v', w', hr, h2, h3, h4⟩ := run_app_one (w.alloc (.cells #[y] t)) o.type v n xs (hown.alloc _) ⟨w.heap.size, 0, none⟩ c y (by simp [Addr.add]) hy1 hb
  unfold Oper.wp execOp
  simp only [ho, resolve, invoke, builtin, Sem.run_bind, Sem.run_pure, Result.andThen_ok, List.map_toArray, List.map_cons, List.map_nil, hs, hx, hr]
  refine hK _ _ (h v' w' h2 (grownBy_alloc_trans h3) ?_)
  rcases h4 with h4 | h4
  · exact .inl h4
  · exact .inr fun k hk => by have := h4 k hk; simp at this; omega

theorem grown_only {w0 w w' : World} {b : Nat} {v : Value} (h : Only (fun k => k = b) w0 w) (hg : w.grownBy w' v.ownBlock) : Only (fun k => k = b ∨ v.ownBlock = some k) w0 w' :=
  ⟨hg.os.trans h.os, hg.tape.trans h.tape, hg.output.trans h.output, Nat.le_trans h.size hg.size, fun k hk hn => (hg.block k (Nat.lt_of_lt_of_le hk h.size) (fun e => hn (.inr e.symm))).trans (h.same k hk (fun e => hn (.inl e)))⟩

set_option maxRecDepth 100000 in
set_option maxHeartbeats 1600000 in
/-- WriteString. -/
theorem bWriteString {w : World} {b : Nat} {p v : Value} {bs : List Value} (h : BA w b p v bs) (hp : PP b p) (s : ByteArray) (hn : bs.length + s.size ≤ 1000000000) :
    Calls Tryd.prog 78 #[.pointer (some ⟨b, 0, none⟩), .string s] w fun e w' => e = .returned (.tuple #[.int .i64 s.size, .nilIface]) ∧
      ∃ v', BA w' b (selfP b) v' (bs ++ Lib.strCells s) ∧ Only (fun k => k = b ∨ v.ownBlock = some k) w w' ∧ NewBlk w v v' := by
  have e98 : ∀ args w, (callFunc 98 args).run Tryd.prog w = .ok (.enter 98 args) w := enters_of Tryd.func98 (by kernel_rfl) rfl
  go_enter Tryd.func78, Tryd.ntmps78
  go_wp2_with (go_at_call 98; refine (bCheck h hp).mono ?_)
  rintro e w1 ⟨rfl, h1, ho1⟩
  have c0 := h1.c0
  have c1 := h1.c1
  go_wp2_with (at_builtin; refine wpAppStr rfl _ _ rfl _ _ _ rfl h1.2.1 s rfl hn ?_)
  intro v' w2 hown' hgrow hnew
  have hb2 : w2.heap[b]? = some (.cells #[selfP b, v] 109 (0, 0)) := (hgrow.block b h1.lt (fun e => h1.2.2 e.symm)).trans h1.1
  have d1 : w2.cell? ⟨b, 1, none⟩ = some v := by rw [cell_of_row w2 b 1 _ _ _ hb2]; rfl
  have f1 : w2.frozen? ⟨b, 1, none⟩ = false := frozen_of_row w2 b 1 _ _ hb2
  obtain ⟨ao, n', cap, rfl⟩ : ∃ ao n' cap, v' = .slice ao n' cap := by
    rcases hown'.2 with ⟨hv, _⟩ | ⟨g, cap, cur, hv, _⟩
    · exact ⟨_, _, _, hv⟩
    · exact ⟨_, _, _, hv⟩
  go_wp2
  go_ret2
  refine ⟨rfl, _, BA.put hb2 (by simpa [Lib.strCells_length] using hown'), (grown_only ho1 hgrow).setCell (.inl rfl) _, ?_⟩
  rcases hnew with h4 | h4
  · exact .inl h4
  · exact .inr fun k hk => Nat.le_trans ho1.size (h4 k hk)

set_option maxRecDepth 100000 in
set_option maxHeartbeats 1600000 in
/-- WriteByte. -/
theorem bWriteByte {w : World} {b : Nat} {p v : Value} {bs : List Value} (h : BA w b p v bs) (hp : PP b p) (c : Int) (hn : bs.length + 1 ≤ 1000000000) :
    Calls Tryd.prog 80 #[.pointer (some ⟨b, 0, none⟩), .int .u8 c] w fun e w' => e = .returned .nilIface ∧
      ∃ v', BA w' b (selfP b) v' (bs ++ [.int .u8 c]) ∧ Only (fun k => k = b ∨ v.ownBlock = some k) w w' ∧ NewBlk w v v' := by
  have e98 : ∀ args w, (callFunc 98 args).run Tryd.prog w = .ok (.enter 98 args) w := enters_of Tryd.func98 (by kernel_rfl) rfl
  go_enter Tryd.func80, Tryd.ntmps80
  go_wp2_with (go_at_call 98; refine (bCheck h hp).mono ?_)
  rintro e w1 ⟨rfl, h1, ho1⟩
  have c0 := h1.c0
  have c1 := h1.c1
  go_wp2_with (at_builtin; refine wpAppOne rfl _ _ rfl _ _ _ rfl h1.2.1 (.int .u8 c) _ rfl _ rfl hn ?_)
  intro v' w2 hown' hgrow hnew
  have hb2 : w2.heap[b]? = some (.cells #[selfP b, v] 109 (0, 0)) := (hgrow.block b h1.lt (fun e => h1.2.2 e.symm)).trans h1.1
  have d1 : w2.cell? ⟨b, 1, none⟩ = some v := by rw [cell_of_row w2 b 1 _ _ _ hb2]; rfl
  have f1 : w2.frozen? ⟨b, 1, none⟩ = false := frozen_of_row w2 b 1 _ _ hb2
  obtain ⟨ao, n', cap, rfl⟩ : ∃ ao n' cap, v' = .slice ao n' cap := by
    rcases hown'.2 with ⟨hv, _⟩ | ⟨g, cap, cur, hv, _⟩
    · exact ⟨_, _, _, hv⟩
    · exact ⟨_, _, _, hv⟩
  go_wp2
  go_ret
  refine ⟨rfl, _, BA.put hb2 (by simpa using hown'), (grown_only ho1 hgrow).setCell (.inl rfl) _, ?_⟩
  rcases hnew with h4 | h4
  · exact .inl h4
  · exact .inr fun k hk => Nat.le_trans ho1.size (h4 k hk)

set_option maxRecDepth 100000 in
set_option maxHeartbeats 1600000 in
/-- Len. -/
theorem bLen {w : World} {b : Nat} {p v : Value} {bs : List Value} (h : BA w b p v bs) :
    Calls Tryd.prog 81 #[.pointer (some ⟨b, 0, none⟩)] w fun e w' => e = .returned (.int .i64 bs.length) ∧ w' = w := by
  obtain ⟨ao, cap, rfl⟩ : ∃ ao cap, v = .slice ao bs.length cap := by
    rcases h.2.1.2 with ⟨hv, h0⟩ | ⟨g, cap, cur, hv, _⟩
    · exact ⟨none, 0, by rw [hv, h0]⟩
    · exact ⟨_, _, hv⟩
  have c1 := h.c1
  go_enter Tryd.func81, Tryd.ntmps81
  go_wp2
  go_ret
  exact ⟨rfl, rfl⟩
end Go.Proofs.YtpjlaaldepfnkaaDoor
