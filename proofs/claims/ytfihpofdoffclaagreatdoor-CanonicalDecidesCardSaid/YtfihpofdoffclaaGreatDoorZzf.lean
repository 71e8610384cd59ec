/- Texts of this claim, put together: N2 T0. -/
import Derived.Test.YtfihpofdoffclaaGreatDoorZzb
import Derived.Test.YtfihpofdoffclaaGreatDoorZu
import Derived.Test.YtfihpofdoffclaaGreatDoorZx
import Derived.Test.YtfihpofdoffclaaGreatDoorZk
import Derived.Test.YtfihpofdoffclaaGreatDoorZb
import Derived.Test.YtfihpofdoffclaaGreatDoorZg
import Derived.Test.YtfihpofdoffclaaGreatDoorZl

/- The law's own function union. -/
namespace Go.Proofs.YtfihpofdoffclaaGreatDoor
open Go.RowKit Go.ChangeShapes Go.WideShapes Go.ChangeAt Go.Deep Go.WideElems

/-- append(s, y...) at values. -/
theorem run_appVs {P : Program} {T E ty : TypeId} {z : Value} {bytes : Nat} (hE : ElemK P T E z 1 bytes) (hby : bytes ≤ 128) {w : World} {B n m c : Nat} {v : Value} {vs news : List Value}
    (hown : w.ownsRow B E 1 v n vs) (ad : Addr) (hl : news.length = m) (hnews : ∀ j u, news[j]? = some u → w.cell? (ad.add j) = some u) (hc1 : ∀ u ∈ news, u.oneCell' = true) (hn : n + m ≤ 1000000) (hB : B ≤ w.heap.size) :
    ∃ v' w', (Builtin.append_ #[T, T] ty #[v, .slice (some ad) m c]).run P w = .ok v' w' ∧ w'.ownsRow B E 1 v' (n + m) (vs ++ news) ∧ w.grownBy w' v.ownBlock ∧ Below B w w' := by
  obtain ⟨i0, hi, hz0, hz1, hz2⟩ := info_parts hE.2.1
  have hbd : (n + m) * bytes ≤ 140737488355328 := by
    have : (n + m) * bytes ≤ 1000000 * 128 := Nat.mul_le_mul (by omega) hby
    omega
  obtain ⟨v', w', hr, h1, hg, _, _⟩ := run_append_own_at (P := P) w B T ty E i0 z 1 bytes hE.1 hi hz0 hz1 hz2 hE.2.2 (by decide) v n vs hown ad m c news (by omega) hnews hc1 (by unfold maxLen; omega) hbd hB
  exact ⟨v', w', hr, h1, hg, (Below.refl B w).grown hg hB (fun k hk => (hown.lt k hk).1)⟩
theorem step_appVs {P : Program} {T E : TypeId} {z : Value} {bytes : Nat} (hE : ElemK P T E z 1 bytes) (hby : bytes ≤ 128) {w : World} {B n m c : Nat} {v : Value} {vs news : List Value} {ops : Array Oper} {o : Oper} {a : Act} {K : Act → World → Prop} {Q : Exit → Act → World → Prop} {R : Prop} (hgd : o.guard = none) (s y : Operand)
    (ho : o.op = .call { callee := .builtin .append, args := #[s, y], argTypes := #[T, T] }) (hs : a.eval s = v) (hown : w.ownsRow B E 1 v n vs) (ad : Addr) (hx : a.eval y = .slice (some ad) m c) (hl : news.length = m)
    (hnews : ∀ j u, news[j]? = some u → w.cell? (ad.add j) = some u) (hc1 : ∀ u ∈ news, u.oneCell' = true) (hn : n + m ≤ 1000000) (hB : B ≤ w.heap.size)
    (h : ∀ v' w', w'.ownsRow B E 1 v' (n + m) (vs ++ news) → w.grownBy w' v.ownBlock → Below B w w' → K (a.put o.dst v') w') :
    if Region.wanted o (yielded ops a.tmps) = true then Oper.wp P o a w K Q else R := by
  rw [if_pos (by simp [Region.wanted, hgd])]
  obtain ⟨v', w', hr, h2, h3, h4⟩ := run_appVs (P := P) (ty := o.type) (c := c) hE hby hown ad hl hnews hc1 hn hB
  unfold Oper.wp execOp
  simp only [ho, resolve, invoke, builtin, Sem.run_bind, Sem.run_pure, Result.andThen_ok, List.map_toArray, List.map_cons, List.map_nil, hs, hx, hr]
  exact h v' w' h2 h3 h4
/-- An empty row. -/
theorem ownE {W : World} {B g : Nat} {E : TypeId} (hg : W.heap[g]? = some (.cells #[] E)) (hB : B ≤ g) : W.ownsRow B E 1 (.slice (some ⟨g, 0, none⟩) 0 0) 0 [] :=
  ⟨rfl, .inr ⟨g, 0, #[], rfl, hB, hg, Nat.le_refl _, Nat.zero_le _, rfl, rfl⟩⟩
theorem own_shape {w : World} {B k n : Nat} {E : TypeId} {v : Value} {vs : List Value} (h : w.ownsRow B E k v n vs) : ∃ a c, v = .slice a n c := by
  rcases h.2 with ⟨rfl, rfl⟩ | ⟨g, cap, cur, rfl, _⟩
  · exact ⟨_, _, rfl⟩
  · exact ⟨_, _, rfl⟩
/-- A value in a cell. -/
def EV (_ : World) (cs : List Value) (u : Value) : Prop := cs = [u]
theorem EV.stab (E : TypeId) : Stab E EV := fun _ _ _ _ h _ => h
theorem OwX.ofVs {E : TypeId} {w : World} {B n : Nat} {v : Value} {vs : List Value} (h : w.ownsRow B E 1 v n vs) (h1 : ∀ u ∈ vs, u.oneCell' = true) : OwX E 1 EV w B v n vs := by
  have hl : vs.length = n := by have := h.1; simpa using this
  refine ⟨vs, h, hl, h1, fun j x hj => ?_⟩
  have hjl := (List.getElem?_eq_some_iff.1 hj).1
  have he := (List.getElem?_eq_some_iff.1 hj).2
  show _ = _
  rw [Nat.mul_one, List.drop_eq_getElem_cons hjl, List.take_succ_cons, List.take_zero, he]
/-- States given one by one as values. -/
theorem OwX.kssVs {E : TypeId} {w : World} {B n : Nat} {v : Value} {us : List Value} {ss : List (List (List Int))} (h : OwX E 1 EV w B v n us) (hk : ∀ j, j < n → ∀ u, us[j]? = some u → KS 8 w u (ss.getD j [])) (hs : n = ss.length) (hn : n ≤ 5864062014805) : KSS 8 w v ss := by
  have hul := h.length
  subst hs
  rcases Nat.eq_zero_or_pos ss.length with h0 | h0
  · obtain ⟨a, c, rfl⟩ := h.shape
    obtain rfl := List.length_eq_zero_iff.1 h0
    exact ⟨a, c, 0, 0, rfl, by simp, by intro j hj; simp at hj, by simp⟩
  · obtain ⟨g, cap, rfl, _⟩ := h.form h0
    refine ⟨_, cap, g, 0, rfl, fun _ => rfl, fun j hj => ?_, hn⟩
    have hj2 : j < us.length := by omega
    have hx : us[j]? = some us[j] := List.getElem?_eq_getElem hj2
    obtain ⟨cs, h1, h2, h4⟩ := h.cells hx
    refine ⟨us[j], ?_, hk j hj _ hx⟩
    have := h4 0 us[j] (by rw [h2]; rfl)
    rw [Nat.mul_one, Nat.add_zero] at this
    rw [Nat.zero_add]; exact this
theorem boxCells2 {w : World} {g : Nat} {x y : Value} {t : TypeId} (h : w.heap[g]? = some (.cells #[x, y] t)) : w.cell? ⟨g, 0, none⟩ = some x ∧ w.cell? ⟨g, 1, none⟩ = some y ∧ (∀ o, w.frozen? ⟨g, o, none⟩ = false) :=
  ⟨by rw [cell_of_row _ _ 0 _ _ _ h]; rfl, by rw [cell_of_row _ _ 1 _ _ _ h]; rfl, row_free h⟩
theorem boxSet2 {w : World} {g : Nat} {x y u v : Value} {t : TypeId} (h : w.heap[g]? = some (.cells #[x, y] t)) : ((w.setCell ⟨g, 0, none⟩ u).setCell ⟨g, 1, none⟩ v).heap[g]? = some (.cells #[u, v] t) :=
  two_setCell (heap_setCell_same w g 0 _ t u h)

theorem KeepX.two {w : World} {g : Nat} {x y u v : Value} {t : TypeId} (h : w.heap[g]? = some (.cells #[x, y] t)) : KeepX t w ((w.setCell ⟨g, 0, none⟩ u).setCell ⟨g, 1, none⟩ v) :=
  (KeepX.setCell (p := ⟨g, 0, none⟩) h u).trans (KeepX.setCell (p := ⟨g, 1, none⟩) (heap_setCell_same w g 0 _ t u h) v)
set_option maxRecDepth 100000 in
set_option maxHeartbeats 6400000 in
theorem unionCall {w : World} {v v' : Value} {n n' : Int} {xs ys : List (List (List Int))} (hA : AdvV w v n xs) (hB : AdvV w v' n' ys) (hW : TwoA n xs ys) (hn : n' = n) :
    Calls Tryz.prog 36 #[v, v'] w fun e w' => ∃ u, e = .returned u ∧ AdvV w' u n (unS xs ys) ∧ Below w.heap.size w w' := by
  subst hn
  have hx0 := hW.l.pos
  have hl := hW.2.2.1
  have hm := hW.2.2.2
  obtain ⟨sv, rfl, hK⟩ := hA
  obtain ⟨sa, sc, sb, so, rfl, hsa, hsc, _⟩ := hK
  obtain rfl := hsa hx0
  obtain ⟨tv, rfl, hK'⟩ := hB
  obtain ⟨ta, tc, tb, to', rfl, hta, htc, _⟩ := hK'
  obtain ⟨U, hU⟩ := choose_lt (α := Value) (n := xs.length) (p := fun j u => w.cell? ⟨sb, so + j, none⟩ = some u ∧ KS 8 w u (xs.getD j [])) (fun j hj => hsc j hj)
  obtain ⟨avs, has⟩ : ∃ avs, (List.range xs.length).map U = avs := ⟨_, rfl⟩
  have hal : avs.length = xs.length := by rw [← has]; simp
  have haj : ∀ j, j < xs.length → avs[j]? = some (U j) := fun j hj => by rw [← has]; simp [hj]
  obtain ⟨W0, hW0⟩ : ∃ W0, W0 = (w.alloc (.cells #[.int .i64 n', .slice (some ⟨sb, so, none⟩) xs.length sc] 24)).alloc (.cells #[.int .i64 n', .slice ta ys.length tc] 24) := ⟨_, rfl⟩
  obtain ⟨hb0, ⟨p0, p1⟩, ⟨q0, q1⟩, _, hs0⟩ := boxAdv2 hW0
  obtain ⟨W2, hW2⟩ : ∃ W2, W2 = W0.alloc (.cells #[.int .i64 0, .slice none 0 0] 24) := ⟨_, rfl⟩
  obtain ⟨hb2, z0, z1, m2⟩ := boxAdv hW2
  rw [hs0] at z0 z1 m2
  have hb12 := bt hb0 hb2 hb0.size
  have p1' := cell_kept hb2 p1
  have p0' := cell_kept hb2 p0
  have q1' := cell_kept hb2 q1
  have hcs : Hid (∀ j u, avs[j]? = some u → w.cell? ((⟨sb, so, none⟩ : Addr).add j) = some u) := fun j u hj => by
    have hjl := (List.getElem?_eq_some_iff.1 hj).1
    rw [haj j (by omega)] at hj
    injection hj with hj
    subst hj
    rw [Addr.add_lit]
    exact (hU j (by omega)).1
  have hone : Hid (∀ u ∈ avs, u.oneCell' = true) := fun u hu => by
    obtain ⟨j, hj, rfl⟩ := List.getElem_of_mem hu
    have h1 := haj j (by omega)
    rw [List.getElem?_eq_getElem hj] at h1
    injection h1 with h1
    rw [h1]
    obtain ⟨a, c, h2⟩ := (hU j (by omega)).2.shape
    rw [h2]; rfl
  rw [hW0] at hW2
  have hszW2 : w.heap.size + 2 < W2.heap.size := World.block_lt_of_cell? _ _ z0
  have hcs2 := Lib.hid (fun W (hb : Below W2.heap.size W2 W) j u (hj : avs[j]? = some u) => cell_kept (bt hb12 hb hb12.size) (hcs.out j u hj))
  replace hU := Lib.hid hU
  replace haj := Lib.hid haj
  replace has := Lib.hid has
  replace htc := Lib.hid htc
  replace hsc := Lib.hid hsc
  have hal9 : avs.length ≤ 90 := by omega
  have hxl9 : xs.length ≤ 90 := by omega
  have hyl9 : ys.length ≤ 90 := by omega
  replace hal := Lib.hid hal
  replace hW := Lib.hid hW
  replace hs0 := Lib.hid hs0
  replace hW0 := Lib.hid hW0
  clear p0 p1 q0 q1 hsa
  go_enter Tryz.func36, Tryz.ntmps36
  go_wp2_with fail
  rw [← hW2]
  replace hW2 := Lib.hid hW2
  have hbA : Below W2.heap.size W2 (W2.alloc (.cells #[] 82)).drew := ((Below.refl _ _).alloc (Nat.le_refl _) _).drew
  have hbB : Below W2.heap.size W2 ((W2.alloc (.cells #[.int .i64 0, .slice none 0 0] 24)).alloc (.cells #[] 82)).drew := (((Below.refl _ _).alloc (Nat.le_refl _) _).alloc (by rw [World.size_alloc]; omega) _).drew
  have hbC : Below W2.heap.size W2 ((W2.alloc (.cells #[] 82)).alloc (.cells #[.int .i64 0, .slice none 0 0] 24)).drew := (((Below.refl _ _).alloc (Nat.le_refl _) _).alloc (by rw [World.size_alloc]; omega) _).drew
  have hoA : (W2.alloc (.cells #[] 82)).drew.ownsRow W2.heap.size 82 1 (.slice (some ⟨W2.heap.size, 0, none⟩) 0 0) 0 [] := ownE (W := (W2.alloc (.cells #[] 82)).drew) (heap_alloc_new W2 _) (Nat.le_refl _)
  have heB : ((W2.alloc (.cells #[.int .i64 0, .slice none 0 0] 24)).alloc (.cells #[] 82)).drew.heap[W2.heap.size + 1]? = some (.cells #[] 82) := by
    have := heap_alloc_new (W2.alloc (.cells #[.int .i64 0, .slice none 0 0] 24)) (.cells #[] 82)
    rw [World.size_alloc] at this; exact this
  have hoB : ((W2.alloc (.cells #[.int .i64 0, .slice none 0 0] 24)).alloc (.cells #[] 82)).drew.ownsRow W2.heap.size 82 1 (.slice (some ⟨W2.heap.size + 1, 0, none⟩) 0 0) 0 [] := ownE heB (Nat.le_succ _)
  have hxB : ((W2.alloc (.cells #[.int .i64 0, .slice none 0 0] 24)).alloc (.cells #[] 82)).drew.heap[W2.heap.size]? = some (.cells #[.int .i64 0, .slice none 0 0] 24) := ha_old (w := W2.alloc (.cells #[.int .i64 0, .slice none 0 0] 24)) (by rw [World.size_alloc]; omega) (heap_alloc_new W2 _)
  have heC : ((W2.alloc (.cells #[] 82)).alloc (.cells #[.int .i64 0, .slice none 0 0] 24)).drew.heap[W2.heap.size]? = some (.cells #[] 82) := ha_old (w := W2.alloc (.cells #[] 82)) (by rw [World.size_alloc]; omega) (heap_alloc_new W2 _)
  have hoC : ((W2.alloc (.cells #[] 82)).alloc (.cells #[.int .i64 0, .slice none 0 0] 24)).drew.ownsRow W2.heap.size 82 1 (.slice (some ⟨W2.heap.size, 0, none⟩) 0 0) 0 [] := ownE heC (Nat.le_refl _)
  have hxC : ((W2.alloc (.cells #[] 82)).alloc (.cells #[.int .i64 0, .slice none 0 0] 24)).drew.heap[W2.heap.size + 1]? = some (.cells #[.int .i64 0, .slice none 0 0] 24) := by
    have := heap_alloc_new (W2.alloc (.cells #[] 82)) (.cells #[.int .i64 0, .slice none 0 0] 24)
    rw [World.size_alloc] at this; exact this
  have hcA := Lib.hid (hcs2.out _ hbA)
  have hcB := Lib.hid (hcs2.out _ hbB)
  have hcC := Lib.hid (hcs2.out _ hbC)
  have hn9 : 0 + xs.length ≤ 1000000 := by omega
  replace hoA := Lib.hid hoA
  replace hoB := Lib.hid hoB
  replace hoC := Lib.hid hoC
  replace heB := Lib.hid heB
  replace heC := Lib.hid heC
  replace hxB := Lib.hid hxB
  replace hxC := Lib.hid hxC
  go_upto_region 1 with fail
  go_cut [5] (fun pv wx => ∃ bo sv, pv = .pointer (some ⟨bo, 0, none⟩) ∧ wx.heap[bo]? = some (.cells #[.int .i64 n', sv] 24) ∧ OwX 82 1 EV wx W2.heap.size sv xs.length avs ∧ W2.heap.size ≤ bo ∧ Below W2.heap.size W2 wx)
  case first =>
    go_region_held3 (fun w' => w'.cell? ⟨w.heap.size, 0, none⟩ = some (.int .i64 n') ∧ w'.cell? ⟨w.heap.size, 1, none⟩ = some (.slice (some ⟨sb, so, none⟩) xs.length sc))
      (first
        | go_keep
        | (exact ⟨cell_kept hR7 p0', cell_kept hR7 p1'⟩)
        | (exact ⟨cell_kept (hR7.alloc hR7.size _) p0', cell_kept (hR7.alloc hR7.size _) p1'⟩)
        | (exact ⟨cell_kept (Below.setCell (p := ⟨W2.heap.size, 1, none⟩) (Below.setCell (p := ⟨W2.heap.size, 0, none⟩) hR7 (Nat.le_refl _) _) (Nat.le_refl _) _) p0', cell_kept (Below.setCell (p := ⟨W2.heap.size, 1, none⟩) (Below.setCell (p := ⟨W2.heap.size, 0, none⟩) hR7 (Nat.le_refl _) _) (Nat.le_refl _) _) p1'⟩)
        | (exact ⟨cell_kept (Below.setCell (p := ⟨W2.heap.size + 1, 1, none⟩) (Below.setCell (p := ⟨W2.heap.size + 1, 0, none⟩) hR7 (Nat.le_succ _) _) (Nat.le_succ _) _) p0', cell_kept (Below.setCell (p := ⟨W2.heap.size + 1, 1, none⟩) (Below.setCell (p := ⟨W2.heap.size + 1, 0, none⟩) hR7 (Nat.le_succ _) _) (Nat.le_succ _) _) p1'⟩))
      (first
        | ((refine step_appVs (B := W2.heap.size) (news := avs) elemSt (by decide) (by rfl) _ _ (by rfl) (by rfl) hoA.out ⟨sb, so, none⟩ (by rfl) hal.out hcA.out hone.out hn9 hbA.size ?_; intro v7 w7 ho7 hg7 hb7; rw [Nat.zero_add, List.nil_append] at ho7; obtain ⟨va7, vc7, rfl⟩ := own_shape ho7; have hR7 := hbA.trans hb7))
        | ((refine step_appVs (B := W2.heap.size) (news := avs) elemSt (by decide) (by rfl) _ _ (by rfl) (by rfl) hoB.out ⟨sb, so, none⟩ (by rfl) hal.out hcB.out hone.out hn9 hbB.size ?_; intro v7 w7 ho7 hg7 hb7; rw [Nat.zero_add, List.nil_append] at ho7; obtain ⟨va7, vc7, rfl⟩ := own_shape ho7; have hR7 := hbB.trans hb7; have hz7 := (hg7.block W2.heap.size (Array.getElem?_eq_some_iff.1 hxB.out).1 (by simp [Value.ownBlock])).trans hxB.out; obtain ⟨c70, c71, c7f⟩ := boxCells2 hz7; have c7f0 := c7f 0; have c7f1 := c7f 1; clear c7f))
        | ((refine step_appVs (B := W2.heap.size) (news := avs) elemSt (by decide) (by rfl) _ _ (by rfl) (by rfl) hoC.out ⟨sb, so, none⟩ (by rfl) hal.out hcC.out hone.out hn9 hbC.size ?_; intro v7 w7 ho7 hg7 hb7; rw [Nat.zero_add, List.nil_append] at ho7; obtain ⟨va7, vc7, rfl⟩ := own_shape ho7; have hR7 := hbC.trans hb7; have hz7 := (hg7.block (W2.heap.size + 1) (Array.getElem?_eq_some_iff.1 hxC.out).1 (by simp [Value.ownBlock])).trans hxC.out; obtain ⟨c70, c71, c7f⟩ := boxCells2 hz7; have c7f0 := c7f 0; have c7f1 := c7f 1; clear c7f)))
    all_goals
      go_wp2
      go_meet
      first
        | exact ⟨w7.heap.size, _, rfl, heap_alloc_new w7 _, OwX.keep (EV.stab _) (OwX.ofVs ho7 hone.out) ((Below.refl _ _).alloc (Nat.le_refl _) _), hR7.size, hR7.alloc hR7.size _⟩
        | exact ⟨W2.heap.size, _, rfl, boxSet2 hz7, (OwX.ofVs ho7 hone.out).other (EV.stab _) (by decide) (KeepX.two hz7), Nat.le_refl _, Below.setCell (p := ⟨W2.heap.size, 1, none⟩) (Below.setCell (p := ⟨W2.heap.size, 0, none⟩) hR7 (Nat.le_refl _) _) (Nat.le_refl _) _⟩
        | exact ⟨W2.heap.size + 1, _, rfl, boxSet2 hz7, (OwX.ofVs ho7 hone.out).other (EV.stab _) (by decide) (KeepX.two hz7), Nat.le_succ _, Below.setCell (p := ⟨W2.heap.size + 1, 1, none⟩) (Below.setCell (p := ⟨W2.heap.size + 1, 0, none⟩) hR7 (Nat.le_succ _) _) (Nat.le_succ _) _⟩
  case rest =>
    obtain ⟨bo, sv0, rfl, hbo, hrow, hbo2, hbx⟩ := hcut
    obtain ⟨wp, hwp⟩ : ∃ wp, wp = wc := ⟨_, rfl⟩
    subst hwp
    clear hbA hbB hbC hn9
    have hbq1 := cell_kept hbx q1'
    have m2' : W2.heap[w.heap.size + 1 + 1]? = some (.cells #[.int .i64 0, .slice none 0 0] 24) := m2
    have hrow0 : OwX 82 1 EV wp W2.heap.size sv0 (xs.length + 0) (avs ++ []) := by rw [List.append_nil]; exact hrow
    have hus0 : Hid (∀ j u, ([] : List Value)[j]? = some u → OwX 84 8 EI wp 0 u (ys.getD j []).length (shMs xs.length (ys.getD j []))) := fun j u h => by simp at h
    have hylen : Hid (∀ j, (ys.getD j []).length ≤ 90) := fun j => by
      by_cases hj : j < ys.length
      · rw [getD_eq hj]
        have := mem_movesN (List.getElem_mem hj)
        omega
      · rw [List.getD_eq_getElem?_getD, List.getElem?_eq_none (by omega)]; simp
    have hymd : Hid (∀ j, j < ys.length → ∀ m ∈ ys.getD j [], m.length = 8 ∧ 0 ≤ m.getD 7 0 ∧ m.getD 7 0 < (ys.length : Int)) := fun j hj m hm => by
      have hmem : ys.getD j [] ∈ ys := by rw [getD_eq hj]; exact List.getElem_mem hj
      exact ⟨hW.out.r.1 _ hmem m hm, hW.out.r.lead _ hmem m hm⟩
    clear hrow
    go_wp2_with fail
    go_loopw [21] (fun iv wr => ∃ (i : Nat) (us : List Value) (sv : Value), iv = .int .i64 i ∧ i ≤ ys.length ∧ us.length = i ∧ wr.heap[bo]? = some (.cells #[.int .i64 n', sv] 24) ∧ OwX 82 1 EV wr W2.heap.size sv (xs.length + i) (avs ++ us) ∧
      Hid (∀ j u, us[j]? = some u → OwX 84 8 EI wr 0 u (ys.getD j []).length (shMs xs.length (ys.getD j []))) ∧ Below W2.heap.size W2 wr) (fun iv _ => ys.length - (intOf iv).toNat)
    case atStart => exact ⟨0, [], sv0, rfl, by omega, rfl, hbo, hrow0, hus0, hbx⟩
    case round =>
      clear hrow0 hus0 hbo hbx hbq1
      obtain ⟨i, us, sv, rfl, hi, hul, hbo, hrow, hus, hbr⟩ := hrel
      obtain ⟨va, vc, hsv⟩ := hrow.shape
      subst hsv
      have hbw := bt hb12 hbr hb12.size
      by_cases hlt : i < ys.length
      · have hii : (i : Int) < (ys.length : Int) := by omega
        obtain ⟨u, hu, hk⟩ := htc.out i hlt
        obtain rfl := hta (by omega)
        have hur := cell_kept hbw hu
        obtain ⟨ms, hms⟩ : ∃ ms, ys.getD i [] = ms := ⟨_, rfl⟩
        have hml := hylen.out i
        have hmd := hymd.out i hlt
        rw [hms] at hk hml hmd
        obtain ⟨ua, uc, ub, uo, hus2, hua, hmc, _⟩ := hk
        subst hus2
        have hx1 := cell_kept hbr p1'
        obtain ⟨wo, hwo⟩ : ∃ wo, wo = wr := ⟨_, rfl⟩
        subst hwo
        have hmcw := Lib.hid (fun W (hW : Below wo.heap.size wo W) j (hj : j < ms.length) => And.intro (hmc j hj).1 ((hmc j hj).2.keep (bt hbw hW hbw.size)))
        have hx1w := Lib.hid (fun W (hW : Below wo.heap.size wo W) => cell_kept hW hx1)
        have hnil : OwX 84 8 EI wo wo.heap.size (.slice none 0 0) 0 (shMs xs.length (ms.take 0)) := OwX.nil _ _
        replace hmd := Lib.hid hmd
        replace hms := Lib.hid hms
        replace hul := Lib.hid hul
        clear hmc hu hx1
        go_wp2_with fail
        go_loopw [8, 27] (fun mv jv wr => ∃ j : Nat, jv = .int .i64 j ∧ j ≤ ms.length ∧ OwX 84 8 EI wr wo.heap.size mv j (shMs xs.length (ms.take j)) ∧ Below wo.heap.size wo wr) (fun _ jv _ => ms.length - (intOf jv).toNat)
        case atStart => exact ⟨0, rfl, by omega, hnil, Below.refl _ _⟩
        case round =>
          clear hnil hur
          obtain ⟨j, rfl, hj, hmv, hbm⟩ := hrel
          obtain ⟨ma, mc, hmvs⟩ := hmv.shape
          subst hmvs
          by_cases hltj : j < ms.length
          · have hji : (j : Int) < (ms.length : Int) := by omega
            obtain ⟨m, hm⟩ : ∃ m, ms.getD j [] = m := ⟨_, rfl⟩
            obtain ⟨hm8, hm0, hm1⟩ := hmd.out m (by rw [← hm, getD_eq hltj]; exact List.getElem_mem hltj)
            have hmk := (hmcw.out wr hbm j hltj).2
            rw [hm] at hmk
            obtain ⟨y0, y1, y2, y3, y4, y5, y6, y7, rfl⟩ := eight hm8
            obtain ⟨c0, c1, c2, c3, c4, c5, c6, c7⟩ := hmk.all8
            obtain rfl := hua (by omega)
            have hg7 : ([y0, y1, y2, y3, y4, y5, y6, y7] : List Int).getD 7 0 = y7 := rfl
            rw [hg7] at hm0 hm1
            have hsn : Hid (shMs xs.length (ms.take (j + 1)) = shMs xs.length (ms.take j) ++ [[y0, y1, y2, y3, y4, y5, y6, y7 + (xs.length : Int)]]) := by
              show _ = _
              rw [take_snoc hltj ([] : List Int), hm, shMs, List.map_append]; rfl
            obtain ⟨Wb, hWb⟩ : ∃ Wb, Wb = wr.alloc (.cells #[.int .i64 y0, .int .i64 y1, .int .i64 y2, .int .i64 y3, .int .i64 y4, .int .i64 y5, .int .i64 y6, .int .i64 y7] 84) := ⟨_, rfl⟩
            have hsWb := Lib.hid (show wr.heap.size + 1 = Wb.heap.size by rw [hWb]; simp)
            have hbb : Below wr.heap.size wr Wb := by rw [hWb]; exact (Below.refl _ _).alloc (Nat.le_refl _) _
            have hmvb := OwX.keep (EI.stab _) hmv hbb
            have hbmb := bt hbm hbb hbm.size
            have hc8 : ∀ u ∈ (#[.int .i64 y0, .int .i64 y1, .int .i64 y2, .int .i64 y3, .int .i64 y4, .int .i64 y5, .int .i64 y6, .int .i64 (y7 + (xs.length : Int))] : Array Value).toList, u.oneCell' = true := fun u hu => by
              simp only [List.mem_cons, List.not_mem_nil, or_false] at hu
              rcases hu with rfl | rfl | rfl | rfl | rfl | rfl | rfl | rfl <;> rfl
            have hEI : EI Wb [.int .i64 y0, .int .i64 y1, .int .i64 y2, .int .i64 y3, .int .i64 y4, .int .i64 y5, .int .i64 y6, .int .i64 (y7 + (xs.length : Int))] [y0, y1, y2, y3, y4, y5, y6, y7 + (xs.length : Int)] := rfl
            have hszb := hbmb.size
            have hj9 : j ≤ 1000000000000 := by omega
            have hw7 : IntKind.i64.wrap (y7 + (xs.length : Int)) = y7 + (xs.length : Int) := IntWalk.i64_in _ (by omega)
            have hx1 := hx1w.out wr hbm
            have hx1b := cell_kept hbb hx1
            rw [hWb] at hx1b
            replace hc8 := Lib.hid hc8
            replace hEI := Lib.hid hEI
            replace hm := Lib.hid hm
            clear hmk hm8 hg7 hmv
            go_wp2_with (at_builtin; rw [← hWb]; refine wpAppX (x := [y0, y1, y2, y3, y4, y5, y6, y7 + (xs.length : Int)]) elemMv (by decide) (by decide) (EI.stab _) rfl _ _ rfl rfl hmvb rfl hsWb.out rfl hc8.out hEI.out hj9 hszb ?_)
            intro mv2 w2 hrow2 hgr2 hbl2 hx2
            rw [← hWb] at hbl2
            rw [← hsn.out] at hrow2
            have hbf := hbmb.trans hbl2
            clear hmvb
            go_wp2
            go_roundw
            case rel => exact ⟨j + 1, by go_num, hltj, hrow2, hbf⟩
            case measure => simp [intOf]; omega
          · obtain rfl : j = ms.length := by omega
            rw [List.take_length] at hmv
            have hge : ¬ ((ms.length : Int) < (ms.length : Int)) := by omega
            have hbom := (hbm.block _ (Array.getElem?_eq_some_iff.1 hbo).1).trans hbo
            have hrowm := OwX.keep (EV.stab _) hrow hbm
            have hbrm := bt hbr hbm hbr.size
            have d1 : wr.cell? ⟨bo, 1, none⟩ = some (.slice va (xs.length + i) vc) := by rw [cell_of_row _ _ 1 _ _ _ hbom]; rfl
            have hEV : EV wr [.slice ma ms.length mc] (.slice ma ms.length mc) := rfl
            have hc1 : ∀ u ∈ (#[.slice ma ms.length mc] : Array Value).toList, u.oneCell' = true := fun u hu => by
              rw [List.mem_singleton.1 hu]; rfl
            have hn9 : xs.length + i ≤ 1000000000000 := by omega
            have husm := Lib.hid (fun j u (h : us[j]? = some u) => OwX.keep (EI.stab _) (hus.out j u h) hbm)
            replace hbom := Lib.hid hbom
            replace hc1 := Lib.hid hc1
            clear hrow hbo hus
            go_wp2_with (at_builtin; refine wpAppX elemSt (by decide) (by decide) (EV.stab _) rfl _ _ rfl rfl hrowm rfl rfl rfl hc1.out hEV hn9 hbrm.size ?_)
            intro sv2 w2 hrow2 hgr2 hbl2 hx2
            obtain ⟨v2a, v2c, hsv2⟩ := hrow2.shape
            subst hsv2
            have hbo2' := (hx2 _ _ _ hbom.out (by decide)).trans hbom.out
            obtain ⟨e0, e1, ef⟩ := boxCells2 hbo2'
            have ef1 := ef 1
            clear ef
            have hbo3 := two_setCell (u := .slice v2a (xs.length + i + 1) v2c) hbo2'
            have hX3 := KeepX.setCell (p := ⟨bo, 1, none⟩) hbo2' (.slice v2a (xs.length + i + 1) v2c)
            have hrow3 := hrow2.other (E' := 24) (EV.stab _) (by decide) hX3
            have hmv3 := ((hmv.other (E' := 82) (EI.stab _) (by decide) hx2).other (E' := 24) (EI.stab _) (by decide) hX3).base (B' := 0) (Nat.zero_le _)
            have hus3 : Hid (∀ j u, (us ++ [.slice ma ms.length mc])[j]? = some u → OwX 84 8 EI (w2.setCell ⟨bo, 1, none⟩ (.slice v2a (xs.length + i + 1) v2c)) 0 u (ys.getD j []).length (shMs xs.length (ys.getD j []))) := fun j u h => by
              by_cases hj : j < us.length
              · rw [List.getElem?_append_left hj] at h
                exact ((husm.out j u h).other (E' := 82) (EI.stab _) (by decide) hx2).other (E' := 24) (EI.stab _) (by decide) hX3
              · rw [List.getElem?_append_right (by omega)] at h
                have hj0 : j - us.length = 0 := by
                  have := (List.getElem?_eq_some_iff.1 h).1
                  simpa using this
                rw [hj0] at h
                simp only [List.getElem?_cons_zero, Option.some.injEq] at h
                subst h
                obtain rfl : j = i := by have := hul.out; omega
                rw [hms.out]; exact hmv3
            have hb3 : Below W2.heap.size W2 (w2.setCell ⟨bo, 1, none⟩ (.slice v2a (xs.length + i + 1) v2c)) := Below.setCell (p := ⟨bo, 1, none⟩) (hbrm.trans hbl2) hbo2 _
            have hul3 : Hid ((us ++ [Value.slice ma ms.length mc]).length = i + 1) := by show _ = _; rw [List.length_append, hul.out]; rfl
            replace hbo3 := Lib.hid hbo3
            replace hX3 := Lib.hid hX3
            clear hrow2 hmv hrowm husm hmv3 hgr2 hbl2
            go_wp2
            go_roundw
            case rel => exact ⟨i + 1, us ++ [.slice ma ms.length mc], _, by go_num, hlt, hul3.out, hbo3.out, hrow3, hus3, hb3⟩
            case measure => simp [intOf]; omega
      · obtain rfl : i = ys.length := by omega
        have hge : ¬ ((ys.length : Int) < (ys.length : Int)) := by omega
        have d0 : wr.cell? ⟨bo, 0, none⟩ = some (.int .i64 n') := by rw [cell_of_row _ _ 0 _ _ _ hbo]; rfl
        have d1 : wr.cell? ⟨bo, 1, none⟩ = some (.slice va (xs.length + ys.length) vc) := by rw [cell_of_row _ _ 1 _ _ _ hbo]; rfl
        have m3 := (hbr.block _ (Array.getElem?_eq_some_iff.1 m2').1).trans m2'
        have hfr := row_free m3
        have y0 : wr.cell? ⟨w.heap.size + 1 + 1, 0, none⟩ = some (.int .i64 0) := by rw [cell_of_row _ _ 0 _ _ _ m3]; rfl
        have y1 : wr.cell? ⟨w.heap.size + 1 + 1, 1, none⟩ = some (.slice none 0 0) := by rw [cell_of_row _ _ 1 _ _ _ m3]; rfl
        have hrw1 : (wr.setCell ⟨w.heap.size + 1 + 1, 0, none⟩ (.int .i64 n')).heap[w.heap.size + 1 + 1]? = some (.cells #[.int .i64 n', .slice none 0 0] 24) := heap_setCell_same wr _ 0 _ _ _ m3
        have hrw2 := two_setCell (u := .slice va (xs.length + ys.length) vc) hrw1
        have hx2 := (KeepX.setCell (p := ⟨w.heap.size + 1 + 1, 0, none⟩) m3 (.int .i64 n')).trans (KeepX.setCell (p := ⟨w.heap.size + 1 + 1, 1, none⟩) hrw1 (.slice va (xs.length + ys.length) vc))
        have hbe := (hbw.setCell (p := ⟨w.heap.size + 1 + 1, 0, none⟩) (by show w.heap.size ≤ w.heap.size + 1 + 1; omega) (.int .i64 n')).setCell (p := ⟨w.heap.size + 1 + 1, 1, none⟩) (by show w.heap.size ≤ w.heap.size + 1 + 1; omega) (.slice va (xs.length + ys.length) vc)
        have e0 : ((wr.setCell ⟨w.heap.size + 1 + 1, 0, none⟩ (.int .i64 n')).setCell ⟨w.heap.size + 1 + 1, 1, none⟩ (.slice va (xs.length + ys.length) vc)).cell? ⟨w.heap.size + 1 + 1, 0, none⟩ = some (.int .i64 n') := by rw [cell_of_row _ _ 0 _ _ _ hrw2]; rfl
        have e1 : ((wr.setCell ⟨w.heap.size + 1 + 1, 0, none⟩ (.int .i64 n')).setCell ⟨w.heap.size + 1 + 1, 1, none⟩ (.slice va (xs.length + ys.length) vc)).cell? ⟨w.heap.size + 1 + 1, 1, none⟩ = some (.slice va (xs.length + ys.length) vc) := by rw [cell_of_row _ _ 1 _ _ _ hrw2]; rfl
        have hfin : AdvV ((wr.setCell ⟨w.heap.size + 1 + 1, 0, none⟩ (.int .i64 n')).setCell ⟨w.heap.size + 1 + 1, 1, none⟩ (.slice va (xs.length + ys.length) vc)) (.agg #[.int .i64 n', .slice va (xs.length + ys.length) vc]) n' (unS xs ys) := by
          refine ⟨_, rfl, (hrow.other (E' := 24) (EV.stab _) (by decide) hx2).kssVs ?_ (unS_len xs ys).symm (by omega)⟩
          intro j hj u hu
          by_cases hjx : j < xs.length
          · rw [List.getElem?_append_left (by rw [hal.out]; exact hjx), haj.out j hjx] at hu
            injection hu with hu
            subst hu
            rw [unS_l hjx]
            exact ((hU.out j hjx).2).keep hbe
          · rw [List.getElem?_append_right (by rw [hal.out]; omega), hal.out] at hu
            obtain ⟨k, rfl⟩ : ∃ k, j = xs.length + k := ⟨j - xs.length, by omega⟩
            rw [Nat.add_sub_cancel_left] at hu
            rw [unS_r (by omega)]
            refine ((hus.out k u hu).other (E' := 24) (EI.stab _) (by decide) hx2).ks ?_
            have := hylen.out k
            omega
        replace hfin := Lib.hid hfin
        clear hrw1 hrw2 hx2 hrow m3 hus
        go_wp2
        obtain ⟨W8, hW8⟩ : ∃ W8, W8 = (wr.setCell ⟨w.heap.size + 1 + 1, 0, none⟩ (.int .i64 n')).setCell ⟨w.heap.size + 1 + 1, 1, none⟩ (.slice va (xs.length + ys.length) vc) := ⟨_, rfl⟩
        rw [← hW8] at e0 e1 hfin hbe ⊢
        clear hW8
        refine bodyPost_ret (v := .agg #[.int .i64 n', .slice va (xs.length + ys.length) vc]) (by simp [results, Tryz.results36, go_sem, e0, e1]) rfl ?_
        exact ⟨_, rfl, hfin.out, hbe⟩
end Go.Proofs.YtfihpofdoffclaaGreatDoor

/- The table of all moves: index. -/
namespace Go.Proofs.YtfihpofdoffclaaGreatDoor
open Go.RowKit Go.ChangeMaps Go.MapKept Go.WideMaps
attribute [local go_sem] Oper.semAt_some

theorem elemTab : ElemK Tryz.prog 154 114 (.map none) 1 8 := ⟨by kernel_rfl, by kernel_rfl, rfl⟩
def ivN (n : Nat) : Value := .int .i64 (n : Int)
def ent (m : List Int) : List Int × Nat := (rdOf m, mvTo m)
def entP (pre : List (Nat × List Int)) (j : Nat) : List (List Int × Nat) := pre.filterMap fun x => if x.1 = j then some (ent x.2) else none
theorem entP_app (a b : List (Nat × List Int)) (j : Nat) : entP (a ++ b) j = entP a j ++ entP b j := List.filterMap_append
theorem entP_map (k j : Nat) : ∀ ms : List (List Int), entP (ms.map fun m => (k, m)) j = if k = j then ms.map ent else []
  | [] => by simp [entP]
  | m :: r => by
    have h := entP_map k j r
    rw [entP] at h
    rw [List.map_cons, entP, List.filterMap_cons]
    by_cases e : k = j
    · rw [if_pos e] at h ⊢
      simp only [if_pos e]
      rw [h, List.map_cons]
    · rw [if_neg e] at h ⊢
      simp only [if_neg e]
      exact h
theorem entP_lt : ∀ (ss : List (List (List Int))) (k j : Nat), j < k → entP (mvs k ss) j = []
  | [], _, _, _ => rfl
  | l :: r, k, j, h => by rw [mvs, entP_app, entP_map, if_neg (by omega), entP_lt r (k + 1) j (by omega)]; rfl
theorem entP_all : ∀ (ss : List (List (List Int))) (k j : Nat), entP (mvs k ss) (k + j) = (ss.getD j []).map ent
  | [], _, _ => rfl
  | l :: r, k, 0 => by rw [mvs, entP_app, entP_map, Nat.add_zero, if_pos rfl, entP_lt r (k + 1) k (by omega), List.append_nil]; rfl
  | l :: r, k, j + 1 => by
    rw [mvs, entP_app, entP_map, if_neg (by omega), List.nil_append, show k + (j + 1) = k + 1 + j by omega, entP_all r (k + 1) j]; rfl
theorem mvs_in2 : ∀ {ss : List (List (List Int))} {k : Nat} {x : Nat × List Int}, x ∈ mvs k ss → ∃ i, x.1 = k + i ∧ i < ss.length ∧ x.2 ∈ ss.getD i []
  | [], _, _, h => by cases h
  | l :: r, k, x, h => by
    rw [mvs, List.mem_append] at h
    rcases h with h | h
    · obtain ⟨m, hm, rfl⟩ := List.mem_map.1 h; exact ⟨0, rfl, by simp, hm⟩
    · obtain ⟨i, h1, h2, h3⟩ := mvs_in2 h; exact ⟨i + 1, by omega, by simp; omega, h3⟩
theorem entP_new {ss : List (List (List Int))} (hA : ∀ s ∈ ss, AscL (s.map rdOf)) {pre r : List (Nat × List Int)} {x : Nat × List Int} (h : pre ++ x :: r = mvs 0 ss) : rdOf x.2 ∉ (entP pre x.1).map Prod.fst := by
  obtain ⟨i, h1, h2, h3⟩ := mvs_in2 (k := 0) (x := x) (ss := ss) (by rw [← h]; simp)
  have h4 := entP_all ss 0 i
  rw [← h1, ← h, entP_app] at h4
  have h5 : entP (x :: r) x.1 = ent x.2 :: entP r x.1 := by rw [entP, List.filterMap_cons]; simp only [if_pos]; rfl
  rw [h5] at h4
  have hn : ((ss.getD i []).map rdOf).Nodup := by
    refine List.Pairwise.imp (R := fun a b => cmpL a b < 0) (fun {a b} hab e => ?_) (hA _ (by rw [getD_eq h2]; exact List.getElem_mem h2))
    subst e
    rw [cmpL_self] at hab; omega
  have h6 : ((ss.getD i []).map ent).map Prod.fst = (ss.getD i []).map rdOf := by rw [List.map_map]; rfl
  rw [← h6, ← h4, List.map_append, List.map_cons, List.nodup_append] at hn
  intro hin
  exact hn.2.2 _ hin _ (List.mem_cons_self) rfl
/-- The table: for each state the map of its moves. -/
def TB (w : World) (g : Nat) (ss : List (List (List Int))) : Prop := ∀ j, j < ss.length → ∃ b, w.cell? ⟨g, j, none⟩ = some (.map (some b)) ∧ MX rdV ivN w b ((ss.getD j []).map ent)
theorem TB.keep {w w' : World} {g : Nat} {ss : List (List (List Int))} (h : TB w g ss) (hb : Below w.heap.size w w') : TB w' g ss := fun j hj => by
  obtain ⟨b, h1, h2⟩ := h j hj
  exact ⟨b, cell_kept hb h1, h2.keep (hb.block _ h2.lt)⟩
/-- The row of maps while it is filled. -/
def tbV (N0 N i : Nat) : List Value := (List.range i).map (fun j => Value.map (some (N0 + j))) ++ List.replicate (N - i) (.map none)
theorem tbV_set {N0 N i : Nat} (h : i < N) : (tbV N0 N i).set i (.map (some (N0 + i))) = tbV N0 N (i + 1) := by
  rw [tbV, List.set_append_right _ _ (by simp), tbV, List.range_succ, List.map_append]
  have : N - i = (N - (i + 1)) + 1 := by omega
  simp [this, List.replicate_succ]
theorem tbV_at {N0 N j : Nat} (h : j < N) : (tbV N0 N N)[j]? = some (.map (some (N0 + j))) := by simp [tbV, h]
theorem tbV_in {N0 N i j : Nat} (hi : i ≤ N) (h : j < N) : ∃ u, (tbV N0 N i)[j]? = some u := ⟨_, List.getElem?_eq_getElem (by simp [tbV]; omega)⟩
theorem owTab {w : World} {B N N0 : Nat} (hB : B ≤ w.heap.size) (hN : N ≤ 1000000) :
    OwX 114 1 EV (w.alloc (.cells (madeCells #[.map none] N) 114)) B (.slice (some ⟨w.heap.size, 0, none⟩) N N) N (tbV N0 N 0) := by
  have h1 := World.ownsRow_lit (base := B) (e := 114) (size := 1) w (madeCells #[(.map none : Value)] N) N hB (by unfold maxLen; omega) (by rw [size_madeCells, Nat.mul_one])
  rw [toList_madeCells_one] at h1
  have h2 := OwX.ofVs h1 (fun u hu => by rw [List.eq_of_mem_replicate hu]; rfl)
  have : tbV N0 N 0 = List.replicate N (.map none) := by simp [tbV]
  rw [this]; exact h2
theorem runTab (N : Nat) (hN : N ≤ 1000000) (w : World) : (Instr.makeSlice 154 (.int .i64 (N : Int)) (.int .i64 (N : Int))).run Tryz.prog w = .ok (.slice (some ⟨w.heap.size, 0, none⟩) N N) (w.alloc (.cells (madeCells #[.map none] N) 114)) :=
  run_make_row' 154 114 (.map none) 8 elemTab.1 elemTab.2.1 rfl .i64 .i64 N (by omega) (by omega) w
theorem OwX.evCell {E : TypeId} {w : World} {B g n c : Nat} {vs : List Value} (h : OwX E 1 EV w B (.slice (some ⟨g, 0, none⟩) n c) n vs) {j : Nat} {u : Value} (hj : vs[j]? = some u) : w.cell? ⟨g, j, none⟩ = some u := by
  obtain ⟨cs, _, h2, h3⟩ := h.cells hj
  have := h3 0 u (by rw [h2]; rfl)
  rw [Nat.mul_one, Nat.add_zero] at this
  exact this

set_option maxRecDepth 100000 in
set_option maxHeartbeats 6400000 in
theorem indexCall {w : World} {v : Value} {n : Int} {ss : List (List (List Int))} (hA : AdvV w v n ss) (hO : ClsOK ss) (hAs : ∀ s ∈ ss, AscL (s.map rdOf)) :
    Calls Tryz.prog 106 #[v] w fun e w' => ∃ g, e = .returned (.slice (some ⟨g, 0, none⟩) ss.length ss.length) ∧ TB w' g ss ∧ Below w.heap.size w w' := by
  have hl := hO.1
  obtain ⟨sv, rfl, hK⟩ := hA
  obtain ⟨sa, sc, hsv⟩ := hK.shape
  subst hsv
  obtain ⟨N, hN⟩ : ∃ N, ss.length = N := ⟨_, rfl⟩
  have hmk := runTab N (by omega)
  have hmm := @run_makeMap Tryz.prog
  rw [hN] at hl hK ⊢
  refine callsIn_wide.1 (callsIn_of_wp_marks (n := 0) Tryz.func106 rfl trivial ?_)
  simp only [Tryz.ntmps106, List.size_toArray, List.length_cons, List.length_nil, Nat.reduceAdd, Nat.reduceSub, Array.replicate_succ, Array.replicate_zero, List.push_toArray, List.append_toArray, List.nil_append, List.cons_append]
  refine wpIn_wide.2 ?_
  replace hN := Lib.hid hN
  replace hK := Lib.hid hK
  replace hO := Lib.hid hO
  replace hAs := Lib.hid hAs
  go_wp2_with fail
  obtain ⟨wL, hwL⟩ : ∃ wL, wL = ((w.alloc (.cells #[.int .i64 n, .slice sa N sc] 24)).alloc (.cells (madeCells #[.map none] N) 114)).alloc (.cells #[.slice (some ⟨w.heap.size + 1, 0, none⟩) N N] 154) := ⟨_, rfl⟩
  have hsL : Hid (wL.heap.size = w.heap.size + 1 + 1 + 1 + 0) := by show _ = _; rw [hwL]; simp
  have hbW : Below w.heap.size w wL := by rw [hwL]; exact (((Below.refl _ w).alloc (Nat.le_refl _) _).alloc (by simp) _).alloc (by simp; omega) _
  have hBa : wL.heap[w.heap.size]? = some (.cells #[.int .i64 n, .slice sa N sc] 24) := by
    rw [hwL]; exact (Below.heap_alloc _ _ _ (by simp; omega)).trans ((Below.heap_alloc _ _ _ (by simp)).trans (World.alloc_heap_new w _))
  have hT : wL.heap[w.heap.size + 1 + 1]? = some (.cells #[.slice (some ⟨w.heap.size + 1, 0, none⟩) N N] 154) := by
    rw [hwL]
    have := World.alloc_heap_new ((w.alloc (.cells #[.int .i64 n, .slice sa N sc] 24)).alloc (.cells (madeCells #[.map none] N) 114)) (.cells #[.slice (some ⟨w.heap.size + 1, 0, none⟩) N N] 154)
    simpa only [World.size_alloc] using this
  have hrow0 : OwX 114 1 EV wL (w.heap.size + 1) (.slice (some ⟨w.heap.size + 1, 0, none⟩) N N) N (tbV (w.heap.size + 1 + 1 + 1) N 0) := by
    have h := owTab (w := w.alloc (.cells #[.int .i64 n, .slice sa N sc] 24)) (B := w.heap.size + 1) (N := N) (N0 := w.heap.size + 1 + 1 + 1) (by rw [World.size_alloc]; omega) (by omega)
    rw [World.size_alloc] at h
    rw [hwL]
    exact OwX.keep (EV.stab _) h ((Below.refl _ _).alloc (Nat.le_refl _) _)
  have hnil : Hid (∀ j, j < 0 → wL.heap[w.heap.size + 1 + 1 + 1 + j]? = some (.map #[] 0)) := fun j hj => by omega
  rw [← hwL]
  clear hwL
  go_loopw [13] (fun iv wr => ∃ i : Nat, iv = .int .i64 i ∧ i ≤ N ∧ OwX 114 1 EV wr (w.heap.size + 1) (.slice (some ⟨w.heap.size + 1, 0, none⟩) N N) N (tbV (w.heap.size + 1 + 1 + 1) N i) ∧ Hid (∀ j, j < i → wr.heap[w.heap.size + 1 + 1 + 1 + j]? = some (.map #[] 0)) ∧
    Hid (wr.heap.size = w.heap.size + 1 + 1 + 1 + i) ∧ wr.heap[w.heap.size + 1 + 1]? = some (.cells #[.slice (some ⟨w.heap.size + 1, 0, none⟩) N N] 154) ∧ wr.heap[w.heap.size]? = some (.cells #[.int .i64 n, .slice sa N sc] 24) ∧ Below w.heap.size w wr) (fun iv _ => N - (intOf iv).toNat)
  case atStart => exact ⟨0, rfl, by omega, hrow0, hnil, hsL, hT, hBa, hbW⟩
  case round =>
    clear hrow0 hnil hsL hT hBa hbW
    obtain ⟨i, rfl, hi, hrow, hms, hsz, hT, hBa, hbW⟩ := hrel
    have hcT : wr.cell? ⟨w.heap.size + 1 + 1, 0, none⟩ = some (.slice (some ⟨w.heap.size + 1, 0, none⟩) N N) := cell_of_one hT
    by_cases hlt : i < N
    · have hb1 : Below wr.heap.size wr (wr.alloc (.map #[] 0)) := (Below.refl _ _).alloc (Nat.le_refl _) _
      have hrow1 := OwX.keep (EV.stab _) hrow hb1
      obtain ⟨u0, hu0⟩ := tbV_in (N0 := w.heap.size + 1 + 1 + 1) hi hlt
      have hc0 := hrow1.evCell hu0
      have hf0 := OwX.frozen hrow1 i
      obtain ⟨r1, r2⟩ := OwX.store1 (EV.stab _) hrow1 hlt (u := .map (some wr.heap.size)) rfl (x := .map (some wr.heap.size)) rfl
      have hset : (tbV (w.heap.size + 1 + 1 + 1) N i).set i (.map (some wr.heap.size)) = tbV (w.heap.size + 1 + 1 + 1) N (i + 1) := by rw [hsz.out]; exact tbV_set hlt
      rw [hset] at r1
      have hbs : ∀ k, k ≠ w.heap.size + 1 → k < wr.heap.size → ((wr.alloc (.map #[] 0)).setCell ⟨w.heap.size + 1, i, none⟩ (.map (some wr.heap.size))).heap[k]? = wr.heap[k]? := fun k hk hs =>
        (Below.heap_setCell _ ⟨w.heap.size + 1, i, none⟩ _ k hk).trans (Below.heap_alloc _ _ _ hs)
      have hszr := hsz.out
      have hms2 : Hid (∀ j, j < i + 1 → ((wr.alloc (.map #[] 0)).setCell ⟨w.heap.size + 1, i, none⟩ (.map (some wr.heap.size))).heap[w.heap.size + 1 + 1 + 1 + j]? = some (.map #[] 0)) := fun j hj => by
        by_cases hji : j < i
        · rw [hbs _ (by omega) (by omega)]; exact hms.out j hji
        · have : w.heap.size + 1 + 1 + 1 + j = wr.heap.size := by omega
          rw [this]
          exact (Below.heap_setCell _ ⟨w.heap.size + 1, i, none⟩ _ _ (by show wr.heap.size ≠ w.heap.size + 1; omega)).trans (heap_alloc_new _ _)
      have hsz2 : Hid (((wr.alloc (.map #[] 0)).setCell ⟨w.heap.size + 1, i, none⟩ (.map (some wr.heap.size))).heap.size = w.heap.size + 1 + 1 + 1 + (i + 1)) := by show _ = _; simp [World.setCell, hszr]; omega
      have hT2 := (hbs (w.heap.size + 1 + 1) (by omega) (by omega)).trans hT
      have hBa2 := (hbs w.heap.size (by omega) (by omega)).trans hBa
      have hbW2 := (hbW.alloc hbW.size (.map #[] 0)).setCell (p := ⟨w.heap.size + 1, i, none⟩) (Nat.le_succ _) (.map (some wr.heap.size))
      clear hszr hset hbs hrow hrow1 hT hBa hu0
      go_wp2_with fail
      go_roundw
      case rel => exact ⟨i + 1, by go_num, hlt, r1, hms2, hsz2, hT2, hBa2, hbW2⟩
      case measure => simp [intOf]; omega
    · obtain rfl : i = N := by omega
      clear hmk hlt
      obtain ⟨d0, d1⟩ := box2 hBa
      have hge : ¬ ((i : Int) < (i : Int)) := by omega
      go_wp2_with (go_at_call 79; refine (movesCall _ _ _ _ _).mono ?_; rintro e w5 ⟨rfl, rfl⟩)
      obtain ⟨wL, hwL⟩ : ∃ wL, wL = wr.alloc (.cells #[.int .i64 n, .slice sa i sc] 24) := ⟨_, rfl⟩
      have hbL : Below wr.heap.size wr wL := by rw [hwL]; exact (Below.refl _ _).alloc (Nat.le_refl _) _
      have hsz' := hsz.out
      have hsL : wL.heap.size = wr.heap.size + 1 := by rw [hwL]; simp
      have kX : wL.heap[wr.heap.size]? = some (.cells #[.int .i64 n, .slice sa i sc] 24) := by rw [hwL]; exact heap_alloc_new _ _
      have hbWL : Below w.heap.size w wL := bt hbW hbL hbW.size
      have hTL := (hbL.block (w.heap.size + 1 + 1) (by omega)).trans hT
      have hrowL := OwX.keep (EV.stab _) hrow hbL
      have hmsL : Hid (∀ j, j < i → wL.heap[w.heap.size + 1 + 1 + 1 + j]? = some (.map #[] 0)) := fun j hj => (hbL.block _ (by omega)).trans (hms.out j hj)
      rw [← hwL]
      have hcx : wL.cell? ⟨wr.heap.size, 1, none⟩ = some (.slice sa i sc) := box_cell kX rfl
      obtain ⟨X, hX⟩ : ∃ X, X = wr.heap.size := ⟨_, rfl⟩
      have hXs : X = w.heap.size + 1 + 1 + 1 + i := by omega
      have hsL2 : wL.heap.size = X + 1 := by omega
      rw [← hX] at hcx kX ⊢
      have hDX : ∀ k, (w.heap.size + 1 + 1 + 1 ≤ k ∧ k < w.heap.size + 1 + 1 + 1 + i) → ¬ (k = X ∨ k < w.heap.size) := fun k h1 h2 => by omega
      have hwr : wr.heap.size = X := hX.symm
      have hI0 : (∀ k, (w.heap.size + 1 + 1 + 1 ≤ k ∧ k < w.heap.size + 1 + 1 + 1 + i) ↔ (w.heap.size + 1 + 1 + 1 ≤ k ∧ k < w.heap.size + 1 + 1 + 1 + i)) ∧ ∀ j, j < i → MX rdV ivN wL (w.heap.size + 1 + 1 + 1 + j) (entP [] j) := ⟨fun _ => Iff.rfl, fun j hj => ⟨#[], 0, hmsL.out j hj, rfl⟩⟩
      have hmx : Tryz.prog.follows .mixedOrders = true := by kernel_rfl
      clear hwL d0 d1 hcT hT hBa hrow hms hsz hsz' hX hsL kX hbL hmm
      replace hXs := Lib.hid hXs
      replace hsL2 := Lib.hid hsL2
      replace hmsL := Lib.hid hmsL
      refine wpIn_wide.1 (wpIn_rfB (gf := 121) (lb := #[.pointer (some ⟨X, 0, none⟩)]) rfl (enters_of Tryz.func121 (by kernel_rfl) rfl) (mvSeq hK.out hbWL hcx) (Below.refl _ _) (fun _ => rfl) mvR_put (fun _ _ _ _ h => h)
        (fun pre D W => (∀ k, D k ↔ (w.heap.size + 1 + 1 + 1 ≤ k ∧ k < w.heap.size + 1 + 1 + 1 + i)) ∧ ∀ j, j < i → MX rdV ivN W (w.heap.size + 1 + 1 + 1 + j) (entP pre j)) (fun _ _ _ _ => False)
        (fun pre D W W' h hs hk => ⟨h.1, fun j hj => (h.2 j hj).keep (hk _ ((h.1 _).2 ⟨by omega, by omega⟩))⟩) (fun _ _ _ _ _ h _ _ => h)
        (fun k => w.heap.size + 1 + 1 + 1 ≤ k ∧ k < w.heap.size + 1 + 1 + 1 + i) (fun k hk => by have := hsL2.out; have := hXs.out; omega) hDX (fun k hk => by have := hsL2.out; have := hXs.out; omega) hI0
        (fun x => (x.2.map (Value.int .i64)).toArray) 84 (fun x b t => (((t.setIfInBounds 23 (.int .i64 x.1)).setIfInBounds 24 (.agg (x.2.map (Value.int .i64)).toArray)).setIfInBounds 5 (.int .i64 x.1)).setIfInBounds 6 (.pointer (some ⟨b, 0, none⟩))) ?assign ?body ?done ?stop)
      case assign =>
        rintro l pre ⟨s, m⟩ W K ⟨r, hr⟩ hK
        obtain ⟨q0, hq0, hq, hm⟩ := mvs_in2 (x := (s, m)) (k := 0) (ss := ss) (by rw [← hr]; simp)
        obtain rfl : s = q0 := by have h : s = 0 + q0 := hq0; omega
        clear hq0
        obtain ⟨y0, y1, y2, y3, y4, y5, y6, y7, rfl⟩ := eight ((hO.out.2.2.2 _ (by rw [getD_eq hq]; exact List.getElem_mem hq)).2 m hm).2.1
        clear hr hq hm
        simp only [List.setIfInBounds_toArray, List.set_cons_succ, List.set_cons_zero, List.map_cons, List.map_nil] at hK
        simp only [mvEnc, List.map_cons, List.map_nil]
        gi_wp2
        exact hK
      case body =>
        rintro l pre ⟨s, m⟩ D W b ⟨hD, hM⟩ hBd hOn hGr ⟨r, hr⟩ hlen hBb hnb hbb
        obtain ⟨q0, hq0, hq, hm⟩ := mvs_in2 (x := (s, m)) (k := 0) (ss := ss) (by rw [← hr]; simp)
        obtain rfl : s = q0 := by have h : s = 0 + q0 := hq0; omega
        clear hq0
        have hmem : ss.getD s [] ∈ ss := by rw [getD_eq hq]; exact List.getElem_mem hq
        obtain ⟨hwf, hm8, ht0, ht1⟩ := (hO.out.2.2.2 _ hmem).2 m hm
        have hnew := entP_new hAs.out hr
        have hsi : s < i := by rw [← hN.out]; exact hq
        have hWf : ∀ p ∈ entP pre s, WfR p.1 := fun p hp => by
          have h2 := entP_all ss 0 s
          rw [Nat.zero_add, ← hr, entP_app] at h2
          have h3 : p ∈ (ss.getD s []).map ent := by rw [← h2]; exact List.mem_append_left _ hp
          obtain ⟨m', hm', rfl⟩ := List.mem_map.1 h3
          exact ((hO.out.2.2.2 _ hmem).2 m' hm').1
        have hput := fun k => MX.put keyX_round umRd ((hM s hsi).keep (w' := W.drewN k) rfl) hWf hwf hnew (mvTo m)
        obtain ⟨y0, y1, y2, y3, y4, y5, y6, y7, rfl⟩ := eight hm8
        replace ht0 : 0 ≤ y7 := ht0
        obtain ⟨q, rfl⟩ : ∃ q : Nat, y7 = (q : Int) := ⟨y7.toNat, by omega⟩
        have hent : entP (pre ++ [(s, [y0, y1, y2, y3, y4, y5, y6, (q : Int)])]) s = entP pre s ++ [(rdOf [y0, y1, y2, y3, y4, y5, y6, (q : Int)], mvTo [y0, y1, y2, y3, y4, y5, y6, (q : Int)])] := by
          rw [entP_app]; congr 1; simp [entP, ent]
        have hento : ∀ j, j ≠ s → entP (pre ++ [(s, [y0, y1, y2, y3, y4, y5, y6, (q : Int)])]) j = entP pre j := fun j hj => by
          rw [entP_app]
          have : entP [(s, [y0, y1, y2, y3, y4, y5, y6, (q : Int)])] j = [] := by simp [entP]; omega
          rw [this, List.append_nil]
        have hputs : ∀ k, Hid (∃ o, (Instr.mapUpdate 114 (.map (some (w.heap.size + 1 + 1 + 1 + s))) (.agg #[.int .i64 y0, .int .i64 y1, .int .i64 y2, .int .i64 y3, .int .i64 y4, .int .i64 y5, .int .i64 y6]) (.int .i64 (q : Int))).run Tryz.prog (W.drewN k) = .ok () (setBlock (W.drewN k) (w.heap.size + 1 + 1 + 1 + s) o) ∧
            (∀ j, j < i → MX rdV ivN (setBlock (W.drewN k) (w.heap.size + 1 + 1 + 1 + s) o) (w.heap.size + 1 + 1 + 1 + j) (entP (pre ++ [(s, [y0, y1, y2, y3, y4, y5, y6, (q : Int)])]) j)) ∧ Only D W (setBlock (W.drewN k) (w.heap.size + 1 + 1 + 1 + s) o)) := fun k => by
          obtain ⟨o, h1, h2⟩ := hput k
          refine ⟨o, h1, fun j hj => ?_, ((Only.refl D W).drewN k).setBlk ((hD _).2 ⟨by omega, by omega⟩) o⟩
          by_cases e : j = s
          · subst e; rw [hent]; exact h2
          · rw [hento j e]
            exact (hM j hj).keep (setBlock_keep (w := W.drewN k) o (by omega))
        have hTW := (hOn.same (w.heap.size + 1 + 1) (by have := hsL2.out; have := hXs.out; omega) (by omega)).trans hTL
        have hcT : W.cell? ⟨w.heap.size + 1 + 1, 0, none⟩ = some (.slice (some ⟨w.heap.size + 1, 0, none⟩) i i) := cell_of_one hTW
        have hcg : W.cell? ⟨w.heap.size + 1, s, none⟩ = some (.map (some (w.heap.size + 1 + 1 + 1 + s))) := hOn.cell (p := ⟨w.heap.size + 1, s, none⟩) (by show ¬ (w.heap.size + 1 + 1 + 1 ≤ w.heap.size + 1 ∧ _); omega) (hrowL.evCell (tbV_at hsi))
        simp only [List.map_cons, List.map_nil] at hBb
        obtain ⟨p0, p1, p2, p3, p4, p5, p6, p7⟩ := box8 hBb
        have hsi2 : (s : Int) < (i : Int) := by omega
        have hBd' := Lib.hid hBd
        replace hD := Lib.hid hD
        clear hr hq hm hmem hwf hm8 ht0 ht1 hnew hWf hput hent hento hTW hBb hM hlen hI0 hcx hTL hrowL hBd
        simp only [List.setIfInBounds_toArray, List.set_cons_succ, List.set_cons_zero, List.map_cons, List.map_nil]
        gi_wp2
        refine wpIn_region_qtail 8 hmx (by kernel_rfl) (by kernel_rfl) (by kernel_rfl) (by rintro ⟨a, w, h⟩; exact h) ?_
        intro ops'
        simp only [List.take_succ_cons, List.take_zero, List.drop_succ_cons, List.drop_zero]
        repeat (quiet_step (fail))
        refine wpQuiet_nil ?_
        intro k
        obtain ⟨o, hput, hfin, hOf⟩ := hputs k
        replace hfin := Lib.hid hfin
        replace hOf := Lib.hid hOf
        obtain ⟨W2, hW2⟩ : ∃ W2, W2 = setBlock (W.drewN k) (w.heap.size + 1 + 1 + 1 + s) o := ⟨_, rfl⟩
        rw [← hW2] at hput hfin hOf
        clear hW2 hputs
        go_wp2
        exact ⟨D, hOf.out, Gr.refl _ _, fun j hj => Nat.lt_of_lt_of_le (hBd'.out j hj) hOf.out.size, hD.out, hfin.out⟩
      case done =>
        intro d xs D W hS hI hOn hGr hd hnd hdef
        obtain ⟨hD, hM⟩ := hI
        have hsL3 := hsL2.out
        have hXs3 := hXs.out
        have hTW := (hOn.same (w.heap.size + 1 + 1) (by omega) (by omega)).trans hTL
        have hcT : W.cell? ⟨w.heap.size + 1 + 1, 0, none⟩ = some (.slice (some ⟨w.heap.size + 1, 0, none⟩) i i) := cell_of_one hTW
        have hOd : Only (fun k => k = d) W (W.putObj d (.deferred none)) := Only.putObj (D := fun k => k = d) rfl _
        have hTB : TB (W.putObj d (.deferred none)) (w.heap.size + 1) ss := fun j hj => by
          have hji : j < i := by have := hN.out; omega
          refine ⟨w.heap.size + 1 + 1 + 1 + j, ?_, ?_⟩
          · have h1 := hOn.cell (p := ⟨w.heap.size + 1, j, none⟩) (by show ¬ (w.heap.size + 1 + 1 + 1 ≤ w.heap.size + 1 ∧ _); omega) (hrowL.evCell (tbV_at hji))
            exact hOd.cell (p := ⟨w.heap.size + 1, j, none⟩) (by show ¬ (w.heap.size + 1 = d); omega) h1
          · have h2 := hM j hji
            have h3 := entP_all ss 0 j
            rw [Nat.zero_add, ← hS] at h3
            rw [h3] at h2
            exact h2.keep (World.putObj_heap_other (by omega))
        have hbE := below_putObj (B := w.heap.size) (d := d) (hbWL.trans (hOn.below (by omega) (fun k hk => by omega))) (by omega) (.deferred none)
        replace hTB := Lib.hid hTB
        replace hbE := Lib.hid hbE
        clear hTW hM hD hS hOn hGr hsL3 hXs3 hOd hI0 hrowL hTL hcx
        go_wp2
        refine ⟨by simp, .inl ⟨_, _, rfl, run_takeDeferred hdef, ?_⟩⟩
        exact ⟨_, results_tmp rfl _ _ _, ⟨_, rfl, hTB.out, hbE.out⟩⟩
      case stop =>
        intro d c pre D W _ h
        exact h.elim
end Go.Proofs.YtfihpofdoffclaaGreatDoor
