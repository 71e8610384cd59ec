/- Texts of this claim, put together: RW L0. -/
import Derived.Test.YtfihpofdoffclaaGreatDoorZm
import Derived.Test.YtfihpofdoffclaaGreatDoorZl

/- Regions that draw their order, whose calls make new memory: the walk's goal as a structure, which nothing lays open. -/
namespace Go.Proofs.YtfihpofdoffclaaGreatDoor
open Go.RowKit

structure WQ (P : Program) (ops : Array Oper) (C : World → Prop) (Q : Act → Prop) (l : List Oper) (a : Act) : Prop where
  out : wpQuiet P ops C Q l a
theorem WQ.nil {P : Program} {ops : Array Oper} {C : World → Prop} {Q : Act → Prop} {a : Act} (h : Q a) : WQ P ops C Q [] a := ⟨wpQuiet_nil h⟩
theorem WQ.step {P : Program} {ops : Array Oper} {C : World → Prop} {Q : Act → Prop} {a : Act} {o : Oper} {rest : List Oper}
    (h : ∀ K : Act → Prop, (∀ a, WQ P ops C Q rest a → K a) → if Region.wanted o (yielded ops a.tmps) then o.quiet P a C K else K (a.put o.dst undef)) : WQ P ops C Q (o :: rest) a :=
  ⟨wpQuiet_step fun K hK => h K fun a hq => hK a hq.out⟩
/-- All operations read, or call what makes new memory only. -/
theorem wp_region_bw {P : Program} {id : Nat} {Q : Exit → Act → World → Prop} {a : Act} {w : World} {l : List Oper} (hm : P.follows .mixedOrders = true) (hB : Region.lexB .any l.toArray = true)
    (h : WQ P l.toArray (Below w.heap.size w) (fun a' => ∀ w', Below w.heap.size w w' → Q .normal a' w') l a) :
    (Code.region id l.toArray true).wp P Q a w := wp_region_ball hm hB h.out
end Go.Proofs.YtfihpofdoffclaaGreatDoor

/- The reference: letters. -/
namespace Go.Proofs.YtfihpofdoffclaaGreatDoor
open Go.RowKit

/-- A slice of structs of k ints, within its capacity. -/
def KSC (k : Nat) (w : World) (v : Value) (xs : List (List Int)) : Prop :=
  ∃ a c b off, v = .slice a xs.length c ∧ (0 < xs.length → a = some ⟨b, off, none⟩) ∧ CK k w b off xs ∧ xs.length ≤ 2199023255552 ∧ xs.length ≤ c
theorem KSC.ks {k : Nat} {w : World} {v : Value} {xs : List (List Int)} (h : KSC k w v xs) : KS k w v xs := by
  obtain ⟨a, c, b, off, h1, h2, h3, h4, _⟩ := h
  exact ⟨a, c, b, off, h1, h2, h3, h4⟩
theorem KSC.keep {k : Nat} {w w' : World} {v : Value} {xs : List (List Int)} (h : KSC k w v xs) (hb : Below w.heap.size w w') : KSC k w' v xs := by
  obtain ⟨a, c, b, off, h1, h2, h3, h4⟩ := h
  exact ⟨a, c, b, off, h1, h2, h3.keep hb, h4⟩
theorem KSC.tl {k : Nat} {w : World} {b off n c : Nat} {x : List Int} {xs : List (List Int)} (h : KSC k w (.slice (some ⟨b, off, none⟩) n c) (x :: xs)) :
    KSC k w (.slice (if c = 1 then some ⟨b, off, none⟩ else some ⟨b, off + k, none⟩) (n - 1) (c - 1)) xs := by
  obtain ⟨a', c', b', off', h1, h2, h3, h4, h5⟩ := h
  injection h1 with e1 e2 e3
  subst e2 e3
  have ha := h2 (by simp)
  rw [← e1] at ha
  injection ha with ha
  injection ha with hb ho
  subst hb ho
  simp only [List.length_cons] at h4 h5 ⊢
  refine ⟨_, _, b, off + k, by rw [Nat.add_sub_cancel], fun hp => if_neg (by omega), fun j hj => ?_, by omega, by omega⟩
  have := h3 (j + 1) (by simp only [List.length_cons]; omega)
  rw [List.getD_cons_succ] at this
  refine ⟨this.1, ?_⟩
  have e : off + (j + 1) * k = off + k + j * k := by rw [Nat.succ_mul]; omega
  rw [← e]; exact this.2
/-- An adversary whose rows are within their capacities. -/
def AdvC (w : World) (v : Value) (n : Int) (ss : List (List (List Int))) : Prop :=
  ∃ a c b off, v = .agg #[.int .i64 n, .slice a ss.length c] ∧ (0 < ss.length → a = some ⟨b, off, none⟩) ∧ (∀ j, j < ss.length → ∃ u, w.cell? ⟨b, off + j, none⟩ = some u ∧ KSC 8 w u (ss.getD j [])) ∧ ss.length ≤ 5864062014805
theorem AdvC.adv {w : World} {v : Value} {n : Int} {ss : List (List (List Int))} (h : AdvC w v n ss) : AdvV w v n ss := by
  obtain ⟨a, c, b, off, h1, h2, h3, h4⟩ := h
  exact ⟨_, h1, a, c, b, off, rfl, h2, fun j hj => let ⟨u, k1, k2⟩ := h3 j hj; ⟨u, k1, k2.ks⟩, h4⟩
theorem AdvC.keep {w w' : World} {v : Value} {n : Int} {ss : List (List (List Int))} (h : AdvC w v n ss) (hb : Below w.heap.size w w') : AdvC w' v n ss := by
  obtain ⟨a, c, b, off, h1, h2, h3, h4⟩ := h
  exact ⟨a, c, b, off, h1, h2, fun j hj => let ⟨u, k1, k2⟩ := h3 j hj; ⟨u, cell_kept hb k1, k2.keep hb⟩, h4⟩
theorem KSC.hd {w : World} {v : Value} {x : List Int} {xs : List (List Int)} (h : KSC 8 w v (x :: xs)) : ∃ b off n c x0 x1 x2 x3 x4 x5 x6 x7, v = .slice (some ⟨b, off, none⟩) n c ∧ x = [x0, x1, x2, x3, x4, x5, x6, x7] ∧ n = xs.length + 1 ∧
    w.cell? ⟨b, off, none⟩ = some (.int .i64 x0) ∧ w.cell? ⟨b, off + 1, none⟩ = some (.int .i64 x1) ∧ w.cell? ⟨b, off + 2, none⟩ = some (.int .i64 x2) ∧ w.cell? ⟨b, off + 3, none⟩ = some (.int .i64 x3) ∧
    w.cell? ⟨b, off + 4, none⟩ = some (.int .i64 x4) ∧ w.cell? ⟨b, off + 5, none⟩ = some (.int .i64 x5) ∧ w.cell? ⟨b, off + 6, none⟩ = some (.int .i64 x6) ∧
    ∃ tp : Option Addr, (if c = 1 then some (⟨b, off, none⟩ : Addr) else some ⟨b, off + 8, none⟩) = tp ∧ KSC 8 w (.slice tp (n - 1) (c - 1)) xs := by
  have h' := h
  obtain ⟨a, c, b, off, rfl, h2, h3, _⟩ := h
  obtain rfl := h2 (by simp)
  obtain ⟨h8, hi⟩ := h3 0 (by simp)
  rw [List.getD_cons_zero] at h8 hi
  rw [Nat.zero_mul, Nat.add_zero] at hi
  obtain ⟨x0, x1, x2, x3, x4, x5, x6, x7, rfl⟩ := eight h8
  obtain ⟨c0, c1, c2, c3, c4, c5, c6, _⟩ := hi.all8
  exact ⟨b, off, _, c, x0, x1, x2, x3, x4, x5, x6, x7, rfl, rfl, by simp, c0, c1, c2, c3, c4, c5, c6, _, rfl, h'.tl⟩
theorem mg_nil_r : ∀ x xs, mg (x :: xs) [] = x :: mg xs [] := fun _ _ => rfl
theorem mg_lt {x y : List Int} {xs ys : List (List Int)} (h : cmpL x y < 0) : mg (x :: xs) (y :: ys) = x :: mg xs (y :: ys) := by rw [mg, mgIn, if_pos h]
theorem mg_eq {x y : List Int} {xs ys : List (List Int)} (h : ¬ cmpL x y < 0) (e : x = y) : mg (x :: xs) (y :: ys) = y :: mg xs ys := by rw [mg, mgIn, if_neg h, if_pos e]
theorem mg_gt {x y : List Int} {xs ys : List (List Int)} (h : ¬ cmpL x y < 0) (e : ¬ x = y) : mg (x :: xs) (y :: ys) = y :: mg (x :: xs) ys := by rw [mg, mgIn, if_neg h, if_neg e]; rfl

set_option maxRecDepth 100000 in
set_option maxHeartbeats 3200000 in
theorem lettersA {w : World} {v : Value} {n : Int} {ss : List (List (List Int))} (hA : AdvC w v n ss) {s t : Nat} (hs : s < ss.length) (ht : t < ss.length) (hsl : (ss.getD s []).length + (ss.getD t []).length ≤ 1000000) :
    Calls Tryz.prog 97 #[v, .int .i64 (s : Int), .int .i64 (t : Int)] w fun e w' => ∃ u, e = .returned u ∧ OwX 79 7 EI w' w.heap.size u (ltr ss s t).length (ltr ss s t) ∧ Below w.heap.size w w' := by
  obtain ⟨sa, sc, sb, so, rfl, hsa, hsc, _⟩ := hA
  obtain rfl := hsa (by omega)
  obtain ⟨W1, hW1⟩ : ∃ W1, W1 = w.alloc (.cells #[.int .i64 n, .slice (some ⟨sb, so, none⟩) ss.length sc] 24) := ⟨_, rfl⟩
  obtain ⟨hb1, p0, p1, _⟩ := boxAdv hW1
  obtain ⟨u1, hc1, hu1⟩ := hsc s hs
  obtain ⟨u2, hc2, hu2⟩ := hsc t ht
  have hc1 := cell_kept hb1 hc1
  have hc2 := cell_kept hb1 hc2
  have hu1 := hu1.keep hb1
  have hu2 := hu2.keep hb1
  obtain ⟨xs, hxs⟩ : ∃ xs, ss.getD s [] = xs := ⟨_, rfl⟩
  obtain ⟨ys, hys⟩ : ∃ ys, ss.getD t [] = ys := ⟨_, rfl⟩
  obtain ⟨R, hR⟩ : ∃ R, ltr ss s t = R := ⟨_, rfl⟩
  rw [hR]
  unfold ltr at hR
  rw [hxs, hys] at hR
  rw [hxs] at hu1 hsl
  rw [hys] at hu2 hsl
  have hR0 : Hid (([] : List (List Int)) ++ mg (xs.map rdOf) (ys.map rdOf) = R) := hR
  obtain ⟨F, hF⟩ : ∃ F, xs.length + ys.length = F := ⟨_, rfl⟩
  rw [hF] at hsl
  have hmx : Tryz.prog.follows .mixedOrders = true := by kernel_rfl
  have hu10 := hu1
  have hu20 := hu2
  obtain ⟨xa, xc, _, _, e1, _⟩ := hu1
  obtain ⟨ya, yc, _, _, e2, _⟩ := hu2
  subst e1 e2
  have hx9 := Lib.hid hu10
  have hy9 := Lib.hid hu20
  have hFh := Lib.hid hF
  clear hsc hxs hys hR hu10 hu20 hF
  have hcs7 : Hid (∀ a0 a1 a2 a3 a4 a5 a6 : Int, ∀ u ∈ ([.int .i64 a0, .int .i64 a1, .int .i64 a2, .int .i64 a3, .int .i64 a4, .int .i64 a5, .int .i64 a6] : List Value), u.oneCell' = true) := fun a0 a1 a2 a3 a4 a5 a6 u hu => by
    simp only [List.mem_cons, List.not_mem_nil, or_false] at hu
    rcases hu with rfl | rfl | rfl | rfl | rfl | rfl | rfl <;> rfl
  go_enter Tryz.func97, Tryz.ntmps97
  go_wp2_with fail
  rw [← hW1]
  replace hW1 := Lib.hid hW1
  go_quiet (fail)
  go_wp2_with fail
  go_loopg [7, 8, 9] F (fun f ov xv yv wr => ∃ o xl yl, OwX 79 7 EI wr W1.heap.size ov o.length o ∧ Hid (KSC 8 W1 xv xl) ∧ Hid (KSC 8 W1 yv yl) ∧ xl.length + yl.length = f ∧ o.length + f ≤ 1000000 ∧ Hid (o ++ mg (xl.map rdOf) (yl.map rdOf) = R) ∧ Below W1.heap.size W1 wr)
  case atStart => exact ⟨[], xs, ys, OwX.nil _ _, hx9, hy9, hFh.out, by simpa using hsl, hR0, below_drewN (Below.refl _ _) _⟩
  case round =>
    clear hR0 hx9 hy9
    obtain ⟨o, xl, yl, ho, hx, hy, hfl, hol, hR, hbr⟩ := hrel
    obtain ⟨oa, oc, hov⟩ := ho.shape
    subst hov
    have hbw := bt hb1 hbr hb1.size
    have ho9 : o.length ≤ 1000000000000 := by omega
    rcases xl with _ | ⟨x, xl⟩
    · rcases yl with _ | ⟨y, yl⟩
      · obtain ⟨xa, xk, _, _, ex, _, _⟩ := hx.out
        subst ex
        rw [List.length_nil] at *
        clear hx
        obtain ⟨ya, yk, _, _, ey, _, _⟩ := hy.out
        subst ey
        rw [List.length_nil] at *
        clear hy
        have hRo : o = R := by have := hR.out; simpa [mg] using this
        subst hRo
        clear hR
        go_wp2_with fail
        go_ret
        exact ⟨_, rfl, ho.base hb1.size, hbw⟩
      · obtain ⟨xa, xk, _, _, ex, _, _⟩ := hx.out
        subst ex
        rw [List.length_nil] at *
        clear hx
        obtain ⟨yb, yo, yn, yk, y0, y1, y2, y3, y4, y5, y6, y7, ey, rfl, hyn, yc0, yc1, yc2, yc3, yc4, yc5, yc6, ytp, hyif, hyt⟩ := KSC.hd hy.out
        subst ey
        replace hyt := Lib.hid hyt
        have hyd : rdOf [y0, y1, y2, y3, y4, y5, y6, y7] = [y0, y1, y2, y3, y4, y5, y6] := rfl
        have yp : (0 : Int) < (yn : Int) := by omega
        have yq : ((yn : Int) == 0) = false := by simp; omega
        have yr : ¬ yn = 0 := by omega
        have yz : 0 < yn := by omega
        have y1i : (1 : Int) ≤ (yn : Int) := by omega
        have y1n : 1 ≤ yn := by omega
        have yzd : decide ((0 : Int) < (yn : Int)) = true := decide_eq_true yp
        replace hyn := Lib.hid hyn
        have hyy := hy
        clear hy
        have hR3 : Hid ((o ++ [[y0, y1, y2, y3, y4, y5, y6]]) ++ mg ((([] : List (List Int))).map rdOf) ((yl).map rdOf) = R) := by
          have := hR.out
          rw [List.map_cons, hyd, List.map_nil, mg] at this
          show _ = _
          rw [List.append_assoc]; exact this
        have hfm : (([] : List (List Int))).length + (yl).length = gk - 1 := by simp at hfl ⊢; omega
        have hom : (o ++ [[y0, y1, y2, y3, y4, y5, y6]]).length + (gk - 1) ≤ 1000000 := by simp at hfl ⊢; omega
        have hg0 : gk - 1 < gk := by simp at hfl; omega
        have HXT : Hid (KSC 8 W1 (.slice xa 0 xk) []) := ⟨_, _, 0, 0, rfl, by simp, by intro j hj; simp at hj, by simp, by simp⟩
        have HYT := hyt
        have hwr := hbr
        clear hR hyd hyt hyy
        go_wp2_with fail
        refine wp_region_bw hmx (by kernel_rfl) ?_
        repeat (refine WQ.step (fun K hK => ?_)
                go_simp
                first
                  | (refine hK _ ?_; clear hK K)
                  | (apply Exists.intro
                     refine ⟨fun wq hC => ?_, hK _ ?_⟩
                     · (first | with_reducible rfl | (go_simp; first | done | with_reducible rfl | with_reducible exact ⟨rfl, rfl⟩))
                     clear hK K))
        refine WQ.nil ?_
        intro w4 hqw4
        have hw4 : Below W1.heap.size W1 w4 := bt hwr hqw4 hwr.size
        go_wp2_with fail
        refine wp_region_bw hmx (by kernel_rfl) ?_
        repeat (refine WQ.step (fun K hK => ?_)
                go_simp
                first
                  | (refine hK _ ?_; clear hK K)
                  | (apply Exists.intro
                     refine ⟨fun wq hC => ?_, hK _ ?_⟩
                     · (first | with_reducible rfl | (go_simp; first | done | with_reducible rfl | with_reducible exact ⟨rfl, rfl⟩))
                     clear hK K))
        refine WQ.nil ?_
        intro w5 hqw5
        have hw5 : Below W1.heap.size W1 w5 := bt hw4 hqw5 hw4.size
        replace hqw5 := bt hqw4 hqw5 hqw4.size
        have ho2 := OwX.keep (EI.stab _) ho hqw5
        have hB2 : W1.heap.size ≤ (w5.alloc (.cells #[.int .i64 y0, .int .i64 y1, .int .i64 y2, .int .i64 y3, .int .i64 y4, .int .i64 y5, .int .i64 y6] 79)).drew.heap.size := by have := hw5.size; simp; omega
        have d0 := cell_kept hw5 yc0
        have d1 := cell_kept hw5 yc1
        have d2 := cell_kept hw5 yc2
        have d3 := cell_kept hw5 yc3
        have d4 := cell_kept hw5 yc4
        have d5 := cell_kept hw5 yc5
        have d6 := cell_kept hw5 yc6
        have hc9 := hcs7.out y0 y1 y2 y3 y4 y5 y6
        have hbA : Below w5.heap.size w5 (w5.alloc (.cells #[.int .i64 y0, .int .i64 y1, .int .i64 y2, .int .i64 y3, .int .i64 y4, .int .i64 y5, .int .i64 y6] 79)).drew := ((Below.refl _ _).alloc (Nat.le_refl _) _).drew
        have hbl := World.block_lt_of_cell? W1 _ yc0
        clear yc0 yc1 yc2 yc3 yc4 yc5 yc6
        go_wp2_with fail
        go_region_held3 (fun w' => w'.cell? ⟨yb, yo, none⟩ = some (.int .i64 y0) ∧ w'.cell? ⟨yb, yo + 1, none⟩ = some (.int .i64 y1) ∧ w'.cell? ⟨yb, yo + 2, none⟩ = some (.int .i64 y2) ∧ w'.cell? ⟨yb, yo + 3, none⟩ = some (.int .i64 y3) ∧ w'.cell? ⟨yb, yo + 4, none⟩ = some (.int .i64 y4) ∧ w'.cell? ⟨yb, yo + 5, none⟩ = some (.int .i64 y5) ∧ w'.cell? ⟨yb, yo + 6, none⟩ = some (.int .i64 y6))
          (first
            | go_keep
            | (exact ⟨cell_kept hbA d0, cell_kept hbA d1, cell_kept hbA d2, cell_kept hbA d3, cell_kept hbA d4, cell_kept hbA d5, cell_kept hbA d6⟩)
            | (exact ⟨(hb7.cell hbl).trans (cell_kept hbA d0), (hb7.cell hbl).trans (cell_kept hbA d1), (hb7.cell hbl).trans (cell_kept hbA d2), (hb7.cell hbl).trans (cell_kept hbA d3), (hb7.cell hbl).trans (cell_kept hbA d4), (hb7.cell hbl).trans (cell_kept hbA d5), (hb7.cell hbl).trans (cell_kept hbA d6)⟩))
          (first
            | ((refine step_appX (B := W1.heap.size) (cs := [.int .i64 y0, .int .i64 y1, .int .i64 y2, .int .i64 y3, .int .i64 y4, .int .i64 y5, .int .i64 y6]) (x := [y0, y1, y2, y3, y4, y5, y6]) elemRd (by decide) (by decide) (EI.stab _) (by rfl) _ _ (by rfl) (by rfl) (ho2.allocD (EI.stab _) _) ⟨w5.heap.size, 0, none⟩ 1 (by rfl) rfl (World.news_of_block (heap_alloc_new w5 _)) hc9 rfl ho9 hB2 ?_; intro v7 w7 ho7 hg7 hn7 hb7 hx7)))
        have hbz : Below W1.heap.size W1 w7 := (hw5.trans (hbA.mono hw5.size)).trans hb7
        have ho8 : OwX 79 7 EI w7 W1.heap.size v7 (o ++ [[y0, y1, y2, y3, y4, y5, y6]]).length (o ++ [[y0, y1, y2, y3, y4, y5, y6]]) := by rw [List.length_append]; exact ho7
        go_wp2
        go_roundg (gk - 1)
        case measure => exact hg0
        case rel => exact ⟨o ++ [[y0, y1, y2, y3, y4, y5, y6]], _, yl, ho8, HXT, HYT, hfm, hom, hR3, hbz⟩
    · rcases yl with _ | ⟨y, yl⟩
      · obtain ⟨ya, yk, _, _, ey, _, _⟩ := hy.out
        subst ey
        rw [List.length_nil] at *
        clear hy
        obtain ⟨xb, xo, xn, xk, x0, x1, x2, x3, x4, x5, x6, x7, ex, rfl, hxn, xc0, xc1, xc2, xc3, xc4, xc5, xc6, xtp, hxif, hxt⟩ := KSC.hd hx.out
        subst ex
        replace hxt := Lib.hid hxt
        have hxd : rdOf [x0, x1, x2, x3, x4, x5, x6, x7] = [x0, x1, x2, x3, x4, x5, x6] := rfl
        have xp : (0 : Int) < (xn : Int) := by omega
        have xq : ((xn : Int) == 0) = false := by simp; omega
        have xr : ¬ xn = 0 := by omega
        have xz : 0 < xn := by omega
        have x1i : (1 : Int) ≤ (xn : Int) := by omega
        have x1n : 1 ≤ xn := by omega
        have xzd : decide ((0 : Int) < (xn : Int)) = true := decide_eq_true xp
        replace hxn := Lib.hid hxn
        have hxx := hx
        clear hx
        have hR3 : Hid ((o ++ [[x0, x1, x2, x3, x4, x5, x6]]) ++ mg ((xl).map rdOf) ((([] : List (List Int))).map rdOf) = R) := by
          have := hR.out
          rw [List.map_cons, hxd, List.map_nil, mg_nil_r] at this
          show _ = _
          rw [List.append_assoc]; exact this
        have hfm : (xl).length + (([] : List (List Int))).length = gk - 1 := by simp at hfl ⊢; omega
        have hom : (o ++ [[x0, x1, x2, x3, x4, x5, x6]]).length + (gk - 1) ≤ 1000000 := by simp at hfl ⊢; omega
        have hg0 : gk - 1 < gk := by simp at hfl; omega
        have HYT : Hid (KSC 8 W1 (.slice ya 0 yk) []) := ⟨_, _, 0, 0, rfl, by simp, by intro j hj; simp at hj, by simp, by simp⟩
        have HXT := hxt
        have hwr := hbr
        clear hR hxd hxt hxx
        go_wp2_with fail
        refine wp_region_bw hmx (by kernel_rfl) ?_
        repeat (refine WQ.step (fun K hK => ?_)
                go_simp
                first
                  | (refine hK _ ?_; clear hK K)
                  | (apply Exists.intro
                     refine ⟨fun wq hC => ?_, hK _ ?_⟩
                     · (first | with_reducible rfl | (go_simp; first | done | with_reducible rfl | with_reducible exact ⟨rfl, rfl⟩))
                     clear hK K))
        refine WQ.nil ?_
        intro w4 hqw4
        have hw4 : Below W1.heap.size W1 w4 := bt hwr hqw4 hwr.size
        have ho2 := OwX.keep (EI.stab _) ho hqw4
        have hB2 : W1.heap.size ≤ (w4.alloc (.cells #[.int .i64 x0, .int .i64 x1, .int .i64 x2, .int .i64 x3, .int .i64 x4, .int .i64 x5, .int .i64 x6] 79)).drew.heap.size := by have := hw4.size; simp; omega
        have d0 := cell_kept hw4 xc0
        have d1 := cell_kept hw4 xc1
        have d2 := cell_kept hw4 xc2
        have d3 := cell_kept hw4 xc3
        have d4 := cell_kept hw4 xc4
        have d5 := cell_kept hw4 xc5
        have d6 := cell_kept hw4 xc6
        have hc9 := hcs7.out x0 x1 x2 x3 x4 x5 x6
        have hbA : Below w4.heap.size w4 (w4.alloc (.cells #[.int .i64 x0, .int .i64 x1, .int .i64 x2, .int .i64 x3, .int .i64 x4, .int .i64 x5, .int .i64 x6] 79)).drew := ((Below.refl _ _).alloc (Nat.le_refl _) _).drew
        have hbl := World.block_lt_of_cell? W1 _ xc0
        clear xc0 xc1 xc2 xc3 xc4 xc5 xc6
        go_wp2_with fail
        go_region_held3 (fun w' => w'.cell? ⟨xb, xo, none⟩ = some (.int .i64 x0) ∧ w'.cell? ⟨xb, xo + 1, none⟩ = some (.int .i64 x1) ∧ w'.cell? ⟨xb, xo + 2, none⟩ = some (.int .i64 x2) ∧ w'.cell? ⟨xb, xo + 3, none⟩ = some (.int .i64 x3) ∧ w'.cell? ⟨xb, xo + 4, none⟩ = some (.int .i64 x4) ∧ w'.cell? ⟨xb, xo + 5, none⟩ = some (.int .i64 x5) ∧ w'.cell? ⟨xb, xo + 6, none⟩ = some (.int .i64 x6))
          (first
            | go_keep
            | (exact ⟨cell_kept hbA d0, cell_kept hbA d1, cell_kept hbA d2, cell_kept hbA d3, cell_kept hbA d4, cell_kept hbA d5, cell_kept hbA d6⟩)
            | (exact ⟨(hb7.cell hbl).trans (cell_kept hbA d0), (hb7.cell hbl).trans (cell_kept hbA d1), (hb7.cell hbl).trans (cell_kept hbA d2), (hb7.cell hbl).trans (cell_kept hbA d3), (hb7.cell hbl).trans (cell_kept hbA d4), (hb7.cell hbl).trans (cell_kept hbA d5), (hb7.cell hbl).trans (cell_kept hbA d6)⟩))
          (first
            | ((refine step_appX (B := W1.heap.size) (cs := [.int .i64 x0, .int .i64 x1, .int .i64 x2, .int .i64 x3, .int .i64 x4, .int .i64 x5, .int .i64 x6]) (x := [x0, x1, x2, x3, x4, x5, x6]) elemRd (by decide) (by decide) (EI.stab _) (by rfl) _ _ (by rfl) (by rfl) (ho2.allocD (EI.stab _) _) ⟨w4.heap.size, 0, none⟩ 1 (by rfl) rfl (World.news_of_block (heap_alloc_new w4 _)) hc9 rfl ho9 hB2 ?_; intro v7 w7 ho7 hg7 hn7 hb7 hx7)))
        have hbz : Below W1.heap.size W1 w7 := (hw4.trans (hbA.mono hw4.size)).trans hb7
        have ho8 : OwX 79 7 EI w7 W1.heap.size v7 (o ++ [[x0, x1, x2, x3, x4, x5, x6]]).length (o ++ [[x0, x1, x2, x3, x4, x5, x6]]) := by rw [List.length_append]; exact ho7
        go_wp2
        go_roundg (gk - 1)
        case measure => exact hg0
        case rel => exact ⟨o ++ [[x0, x1, x2, x3, x4, x5, x6]], xl, _, ho8, HXT, HYT, hfm, hom, hR3, hbz⟩
      · obtain ⟨xb, xo, xn, xk, x0, x1, x2, x3, x4, x5, x6, x7, ex, rfl, hxn, xc0, xc1, xc2, xc3, xc4, xc5, xc6, xtp, hxif, hxt⟩ := KSC.hd hx.out
        subst ex
        replace hxt := Lib.hid hxt
        have hxd : rdOf [x0, x1, x2, x3, x4, x5, x6, x7] = [x0, x1, x2, x3, x4, x5, x6] := rfl
        have xp : (0 : Int) < (xn : Int) := by omega
        have xq : ((xn : Int) == 0) = false := by simp; omega
        have xr : ¬ xn = 0 := by omega
        have xz : 0 < xn := by omega
        have x1i : (1 : Int) ≤ (xn : Int) := by omega
        have x1n : 1 ≤ xn := by omega
        have xzd : decide ((0 : Int) < (xn : Int)) = true := decide_eq_true xp
        replace hxn := Lib.hid hxn
        have hxx := hx
        clear hx
        obtain ⟨yb, yo, yn, yk, y0, y1, y2, y3, y4, y5, y6, y7, ey, rfl, hyn, yc0, yc1, yc2, yc3, yc4, yc5, yc6, ytp, hyif, hyt⟩ := KSC.hd hy.out
        subst ey
        replace hyt := Lib.hid hyt
        have hyd : rdOf [y0, y1, y2, y3, y4, y5, y6, y7] = [y0, y1, y2, y3, y4, y5, y6] := rfl
        have yp : (0 : Int) < (yn : Int) := by omega
        have yq : ((yn : Int) == 0) = false := by simp; omega
        have yr : ¬ yn = 0 := by omega
        have yz : 0 < yn := by omega
        have y1i : (1 : Int) ≤ (yn : Int) := by omega
        have y1n : 1 ≤ yn := by omega
        have yzd : decide ((0 : Int) < (yn : Int)) = true := decide_eq_true yp
        replace hyn := Lib.hid hyn
        have hyy := hy
        clear hy
        have hwr := hbr
        have HC := fun W => refRoundCompare x0 x1 x2 x3 x4 x5 x6 y0 y1 y2 y3 y4 y5 y6 W
        obtain ⟨c, hc⟩ : ∃ c, cmpL [x0, x1, x2, x3, x4, x5, x6] [y0, y1, y2, y3, y4, y5, y6] = c := ⟨_, rfl⟩
        by_cases hlt : c < 0
        · have hltd : decide (c < 0) = true := decide_eq_true hlt
          have hR3 : Hid ((o ++ [[x0, x1, x2, x3, x4, x5, x6]]) ++ mg ((xl).map rdOf) (([y0, y1, y2, y3, y4, y5, y6, y7] :: yl).map rdOf) = R) := by
            have := hR.out
            rw [List.map_cons, List.map_cons, hxd, hyd, mg_lt (by rw [hc]; exact hlt)] at this
            show _ = _
            rw [List.append_assoc]; rw [List.map_cons, hyd]; exact this
          have hfm : (xl).length + ([y0, y1, y2, y3, y4, y5, y6, y7] :: yl).length = gk - 1 := by simp at hfl ⊢; omega
          have hom : (o ++ [[x0, x1, x2, x3, x4, x5, x6]]).length + (gk - 1) ≤ 1000000 := by simp at hfl ⊢; omega
          have hg0 : gk - 1 < gk := by simp at hfl; omega
          have HXT := hxt
          have HYT : Hid (KSC 8 W1 (.slice (some ⟨yb, yo, none⟩) yn yk) ([y0, y1, y2, y3, y4, y5, y6, y7] :: yl)) := hyy
          simp only [hc] at HC
          replace HC := Lib.hid HC
          clear hR hxd hyd hxt hyt hc hyy hxx
          have hf := Lib.hid (fun wq (hC : Below wr.heap.size wr wq) => (And.intro (cell_kept (bt hwr hC hwr.size) xc0) (And.intro (cell_kept (bt hwr hC hwr.size) xc1) (And.intro (cell_kept (bt hwr hC hwr.size) xc2) (And.intro (cell_kept (bt hwr hC hwr.size) xc3) (And.intro (cell_kept (bt hwr hC hwr.size) xc4) (And.intro (cell_kept (bt hwr hC hwr.size) xc5) (And.intro (cell_kept (bt hwr hC hwr.size) xc6) (And.intro (cell_kept (bt hwr hC hwr.size) yc0) (And.intro (cell_kept (bt hwr hC hwr.size) yc1) (And.intro (cell_kept (bt hwr hC hwr.size) yc2) (And.intro (cell_kept (bt hwr hC hwr.size) yc3) (And.intro (cell_kept (bt hwr hC hwr.size) yc4) (And.intro (cell_kept (bt hwr hC hwr.size) yc5) (cell_kept (bt hwr hC hwr.size) yc6)))))))))))))))
          go_wp2_with fail
          refine wp_region_bw hmx (by kernel_rfl) ?_
          repeat (refine WQ.step (fun K hK => ?_)
                  go_simp
                  first
                    | (refine hK _ ?_; clear hK K)
                    | (apply Exists.intro
                       refine ⟨fun wq hC => ?_, hK _ ?_⟩
                       · (first | with_reducible rfl | (obtain ⟨fx0, fx1, fx2, fx3, fx4, fx5, fx6, fy0, fy1, fy2, fy3, fy4, fy5, fy6⟩ := hf.out wq hC; go_simp; first | done | with_reducible rfl | with_reducible exact ⟨rfl, rfl⟩))
                       clear hK K))
          (refine WQ.step (fun K hK => ?_)
           go_simp
           first
             | (refine hK _ ?_; clear hK K)
             | (apply Exists.intro
                refine ⟨fun wq hC => ?_, hK _ ?_⟩
                · (refine (HC.out wq).mono ?_; rintro e w' ⟨rfl, hb⟩; exact ⟨rfl, bt hC hb hC.size⟩)
                clear hK K))
          repeat (refine WQ.step (fun K hK => ?_)
                  go_simp
                  first
                    | (refine hK _ ?_; clear hK K)
                    | (apply Exists.intro
                       refine ⟨fun wq hC => ?_, hK _ ?_⟩
                       · (first | with_reducible rfl | (obtain ⟨fx0, fx1, fx2, fx3, fx4, fx5, fx6, fy0, fy1, fy2, fy3, fy4, fy5, fy6⟩ := hf.out wq hC; go_simp; first | done | with_reducible rfl | with_reducible exact ⟨rfl, rfl⟩))
                       clear hK K))
          refine WQ.nil ?_
          intro w4 hqw4
          have hw4 : Below W1.heap.size W1 w4 := bt hwr hqw4 hwr.size
          clear hf
          have ho2 := OwX.keep (EI.stab _) ho hqw4
          have hB2 : W1.heap.size ≤ (w4.alloc (.cells #[.int .i64 x0, .int .i64 x1, .int .i64 x2, .int .i64 x3, .int .i64 x4, .int .i64 x5, .int .i64 x6] 79)).drew.heap.size := by have := hw4.size; simp; omega
          have d0 := cell_kept hw4 xc0
          have d1 := cell_kept hw4 xc1
          have d2 := cell_kept hw4 xc2
          have d3 := cell_kept hw4 xc3
          have d4 := cell_kept hw4 xc4
          have d5 := cell_kept hw4 xc5
          have d6 := cell_kept hw4 xc6
          have hc9 := hcs7.out x0 x1 x2 x3 x4 x5 x6
          have hbA : Below w4.heap.size w4 (w4.alloc (.cells #[.int .i64 x0, .int .i64 x1, .int .i64 x2, .int .i64 x3, .int .i64 x4, .int .i64 x5, .int .i64 x6] 79)).drew := ((Below.refl _ _).alloc (Nat.le_refl _) _).drew
          have hbl := World.block_lt_of_cell? W1 _ xc0
          clear xc0 xc1 xc2 xc3 xc4 xc5 xc6
          go_wp2_with fail
          go_region_held3 (fun w' => w'.cell? ⟨xb, xo, none⟩ = some (.int .i64 x0) ∧ w'.cell? ⟨xb, xo + 1, none⟩ = some (.int .i64 x1) ∧ w'.cell? ⟨xb, xo + 2, none⟩ = some (.int .i64 x2) ∧ w'.cell? ⟨xb, xo + 3, none⟩ = some (.int .i64 x3) ∧ w'.cell? ⟨xb, xo + 4, none⟩ = some (.int .i64 x4) ∧ w'.cell? ⟨xb, xo + 5, none⟩ = some (.int .i64 x5) ∧ w'.cell? ⟨xb, xo + 6, none⟩ = some (.int .i64 x6))
            (first
              | go_keep
              | (exact ⟨cell_kept hbA d0, cell_kept hbA d1, cell_kept hbA d2, cell_kept hbA d3, cell_kept hbA d4, cell_kept hbA d5, cell_kept hbA d6⟩)
              | (exact ⟨(hb7.cell hbl).trans (cell_kept hbA d0), (hb7.cell hbl).trans (cell_kept hbA d1), (hb7.cell hbl).trans (cell_kept hbA d2), (hb7.cell hbl).trans (cell_kept hbA d3), (hb7.cell hbl).trans (cell_kept hbA d4), (hb7.cell hbl).trans (cell_kept hbA d5), (hb7.cell hbl).trans (cell_kept hbA d6)⟩))
            (first
              | ((refine step_appX (B := W1.heap.size) (cs := [.int .i64 x0, .int .i64 x1, .int .i64 x2, .int .i64 x3, .int .i64 x4, .int .i64 x5, .int .i64 x6]) (x := [x0, x1, x2, x3, x4, x5, x6]) elemRd (by decide) (by decide) (EI.stab _) (by rfl) _ _ (by rfl) (by rfl) (ho2.allocD (EI.stab _) _) ⟨w4.heap.size, 0, none⟩ 1 (by rfl) rfl (World.news_of_block (heap_alloc_new w4 _)) hc9 rfl ho9 hB2 ?_; intro v7 w7 ho7 hg7 hn7 hb7 hx7)))
          have hbz : Below W1.heap.size W1 w7 := (hw4.trans (hbA.mono hw4.size)).trans hb7
          have ho8 : OwX 79 7 EI w7 W1.heap.size v7 (o ++ [[x0, x1, x2, x3, x4, x5, x6]]).length (o ++ [[x0, x1, x2, x3, x4, x5, x6]]) := by rw [List.length_append]; exact ho7
          go_wp2
          go_roundg (gk - 1)
          case measure => exact hg0
          case rel => exact ⟨o ++ [[x0, x1, x2, x3, x4, x5, x6]], xl, _, ho8, HXT, HYT, hfm, hom, hR3, hbz⟩
        · have hltd : decide (c < 0) = false := decide_eq_false hlt
          by_cases he : [x0, x1, x2, x3, x4, x5, x6] = [y0, y1, y2, y3, y4, y5, y6]
          · have hE : eqL [x0, x1, x2, x3, x4, x5, x6] [y0, y1, y2, y3, y4, y5, y6] = true := eqL_true.2 he
            have hR3 : Hid ((o ++ [[y0, y1, y2, y3, y4, y5, y6]]) ++ mg ((xl).map rdOf) ((yl).map rdOf) = R) := by
              have := hR.out
              rw [List.map_cons, List.map_cons, hxd, hyd, mg_eq (by rw [hc]; exact hlt) he] at this
              show _ = _
              rw [List.append_assoc]; exact this
            have hfm : (xl).length + (yl).length = gk - 2 := by simp at hfl ⊢; omega
            have hom : (o ++ [[y0, y1, y2, y3, y4, y5, y6]]).length + (gk - 2) ≤ 1000000 := by simp at hfl ⊢; omega
            have hg0 : gk - 2 < gk := by simp at hfl; omega
            have HXT := hxt
            have HYT := hyt
            simp only [hc] at HC
            replace HC := Lib.hid HC
            clear hR hxd hyd hxt hyt hc hyy hxx he
            have hf := Lib.hid (fun wq (hC : Below wr.heap.size wr wq) => (And.intro (cell_kept (bt hwr hC hwr.size) xc0) (And.intro (cell_kept (bt hwr hC hwr.size) xc1) (And.intro (cell_kept (bt hwr hC hwr.size) xc2) (And.intro (cell_kept (bt hwr hC hwr.size) xc3) (And.intro (cell_kept (bt hwr hC hwr.size) xc4) (And.intro (cell_kept (bt hwr hC hwr.size) xc5) (And.intro (cell_kept (bt hwr hC hwr.size) xc6) (And.intro (cell_kept (bt hwr hC hwr.size) yc0) (And.intro (cell_kept (bt hwr hC hwr.size) yc1) (And.intro (cell_kept (bt hwr hC hwr.size) yc2) (And.intro (cell_kept (bt hwr hC hwr.size) yc3) (And.intro (cell_kept (bt hwr hC hwr.size) yc4) (And.intro (cell_kept (bt hwr hC hwr.size) yc5) (cell_kept (bt hwr hC hwr.size) yc6)))))))))))))))
            go_wp2_with fail
            refine wp_region_bw hmx (by kernel_rfl) ?_
            repeat (refine WQ.step (fun K hK => ?_)
                    go_simp
                    first
                      | (refine hK _ ?_; clear hK K)
                      | (apply Exists.intro
                         refine ⟨fun wq hC => ?_, hK _ ?_⟩
                         · (first | with_reducible rfl | (obtain ⟨fx0, fx1, fx2, fx3, fx4, fx5, fx6, fy0, fy1, fy2, fy3, fy4, fy5, fy6⟩ := hf.out wq hC; go_simp; first | done | with_reducible rfl | with_reducible exact ⟨rfl, rfl⟩))
                         clear hK K))
            (refine WQ.step (fun K hK => ?_)
             go_simp
             first
               | (refine hK _ ?_; clear hK K)
               | (apply Exists.intro
                  refine ⟨fun wq hC => ?_, hK _ ?_⟩
                  · (refine (HC.out wq).mono ?_; rintro e w' ⟨rfl, hb⟩; exact ⟨rfl, bt hC hb hC.size⟩)
                  clear hK K))
            repeat (refine WQ.step (fun K hK => ?_)
                    go_simp
                    first
                      | (refine hK _ ?_; clear hK K)
                      | (apply Exists.intro
                         refine ⟨fun wq hC => ?_, hK _ ?_⟩
                         · (first | with_reducible rfl | (obtain ⟨fx0, fx1, fx2, fx3, fx4, fx5, fx6, fy0, fy1, fy2, fy3, fy4, fy5, fy6⟩ := hf.out wq hC; go_simp; first | done | with_reducible rfl | with_reducible exact ⟨rfl, rfl⟩))
                         clear hK K))
            refine WQ.nil ?_
            intro w4 hqw4
            have hw4 : Below W1.heap.size W1 w4 := bt hwr hqw4 hwr.size
            clear hf
            have hf := Lib.hid (fun wq (hC : Below w4.heap.size w4 wq) => (And.intro (cell_kept (bt hw4 hC hw4.size) xc0) (And.intro (cell_kept (bt hw4 hC hw4.size) xc1) (And.intro (cell_kept (bt hw4 hC hw4.size) xc2) (And.intro (cell_kept (bt hw4 hC hw4.size) xc3) (And.intro (cell_kept (bt hw4 hC hw4.size) xc4) (And.intro (cell_kept (bt hw4 hC hw4.size) xc5) (And.intro (cell_kept (bt hw4 hC hw4.size) xc6) (And.intro (cell_kept (bt hw4 hC hw4.size) yc0) (And.intro (cell_kept (bt hw4 hC hw4.size) yc1) (And.intro (cell_kept (bt hw4 hC hw4.size) yc2) (And.intro (cell_kept (bt hw4 hC hw4.size) yc3) (And.intro (cell_kept (bt hw4 hC hw4.size) yc4) (And.intro (cell_kept (bt hw4 hC hw4.size) yc5) (cell_kept (bt hw4 hC hw4.size) yc6)))))))))))))))
            go_wp2_with fail
            refine wp_region_bw hmx (by kernel_rfl) ?_
            repeat (refine WQ.step (fun K hK => ?_)
                    go_simp
                    first
                      | (refine hK _ ?_; clear hK K)
                      | (apply Exists.intro
                         refine ⟨fun wq hC => ?_, hK _ ?_⟩
                         · (first | with_reducible rfl | (obtain ⟨fx0, fx1, fx2, fx3, fx4, fx5, fx6, fy0, fy1, fy2, fy3, fy4, fy5, fy6⟩ := hf.out wq hC; go_simp; first | done | with_reducible rfl | with_reducible exact ⟨rfl, rfl⟩))
                         clear hK K))
            refine WQ.nil ?_
            intro w5 hqw5
            have hw5 : Below W1.heap.size W1 w5 := bt hw4 hqw5 hw4.size
            clear hf
            replace hqw5 := bt hqw4 hqw5 hqw4.size
            have ho2 := OwX.keep (EI.stab _) ho hqw5
            have hB2 : W1.heap.size ≤ (w5.alloc (.cells #[.int .i64 y0, .int .i64 y1, .int .i64 y2, .int .i64 y3, .int .i64 y4, .int .i64 y5, .int .i64 y6] 79)).drew.heap.size := by have := hw5.size; simp; omega
            have d0 := cell_kept hw5 yc0
            have d1 := cell_kept hw5 yc1
            have d2 := cell_kept hw5 yc2
            have d3 := cell_kept hw5 yc3
            have d4 := cell_kept hw5 yc4
            have d5 := cell_kept hw5 yc5
            have d6 := cell_kept hw5 yc6
            have hc9 := hcs7.out y0 y1 y2 y3 y4 y5 y6
            have hbA : Below w5.heap.size w5 (w5.alloc (.cells #[.int .i64 y0, .int .i64 y1, .int .i64 y2, .int .i64 y3, .int .i64 y4, .int .i64 y5, .int .i64 y6] 79)).drew := ((Below.refl _ _).alloc (Nat.le_refl _) _).drew
            have hbl := World.block_lt_of_cell? W1 _ yc0
            clear yc0 yc1 yc2 yc3 yc4 yc5 yc6
            go_wp2_with fail
            go_region_held3 (fun w' => w'.cell? ⟨yb, yo, none⟩ = some (.int .i64 y0) ∧ w'.cell? ⟨yb, yo + 1, none⟩ = some (.int .i64 y1) ∧ w'.cell? ⟨yb, yo + 2, none⟩ = some (.int .i64 y2) ∧ w'.cell? ⟨yb, yo + 3, none⟩ = some (.int .i64 y3) ∧ w'.cell? ⟨yb, yo + 4, none⟩ = some (.int .i64 y4) ∧ w'.cell? ⟨yb, yo + 5, none⟩ = some (.int .i64 y5) ∧ w'.cell? ⟨yb, yo + 6, none⟩ = some (.int .i64 y6))
              (first
                | go_keep
                | (exact ⟨cell_kept hbA d0, cell_kept hbA d1, cell_kept hbA d2, cell_kept hbA d3, cell_kept hbA d4, cell_kept hbA d5, cell_kept hbA d6⟩)
                | (exact ⟨(hb7.cell hbl).trans (cell_kept hbA d0), (hb7.cell hbl).trans (cell_kept hbA d1), (hb7.cell hbl).trans (cell_kept hbA d2), (hb7.cell hbl).trans (cell_kept hbA d3), (hb7.cell hbl).trans (cell_kept hbA d4), (hb7.cell hbl).trans (cell_kept hbA d5), (hb7.cell hbl).trans (cell_kept hbA d6)⟩))
              (first
                | ((refine step_appX (B := W1.heap.size) (cs := [.int .i64 y0, .int .i64 y1, .int .i64 y2, .int .i64 y3, .int .i64 y4, .int .i64 y5, .int .i64 y6]) (x := [y0, y1, y2, y3, y4, y5, y6]) elemRd (by decide) (by decide) (EI.stab _) (by rfl) _ _ (by rfl) (by rfl) (ho2.allocD (EI.stab _) _) ⟨w5.heap.size, 0, none⟩ 1 (by rfl) rfl (World.news_of_block (heap_alloc_new w5 _)) hc9 rfl ho9 hB2 ?_; intro v7 w7 ho7 hg7 hn7 hb7 hx7)))
            have hbz : Below W1.heap.size W1 w7 := (hw5.trans (hbA.mono hw5.size)).trans hb7
            have ho8 : OwX 79 7 EI w7 W1.heap.size v7 (o ++ [[y0, y1, y2, y3, y4, y5, y6]]).length (o ++ [[y0, y1, y2, y3, y4, y5, y6]]) := by rw [List.length_append]; exact ho7
            go_wp2
            go_roundg (gk - 2)
            case measure => exact hg0
            case rel => exact ⟨o ++ [[y0, y1, y2, y3, y4, y5, y6]], xl, yl, ho8, HXT, HYT, hfm, hom, hR3, hbz⟩
          · have hE : eqL [x0, x1, x2, x3, x4, x5, x6] [y0, y1, y2, y3, y4, y5, y6] = false := eqL_false.2 he
            have hR3 : Hid ((o ++ [[y0, y1, y2, y3, y4, y5, y6]]) ++ mg (([x0, x1, x2, x3, x4, x5, x6, x7] :: xl).map rdOf) ((yl).map rdOf) = R) := by
              have := hR.out
              rw [List.map_cons, List.map_cons, hxd, hyd, mg_gt (by rw [hc]; exact hlt) he] at this
              show _ = _
              rw [List.append_assoc]; rw [List.map_cons, hxd]; exact this
            have hfm : ([x0, x1, x2, x3, x4, x5, x6, x7] :: xl).length + (yl).length = gk - 1 := by simp at hfl ⊢; omega
            have hom : (o ++ [[y0, y1, y2, y3, y4, y5, y6]]).length + (gk - 1) ≤ 1000000 := by simp at hfl ⊢; omega
            have hg0 : gk - 1 < gk := by simp at hfl; omega
            have HXT : Hid (KSC 8 W1 (.slice (some ⟨xb, xo, none⟩) xn xk) ([x0, x1, x2, x3, x4, x5, x6, x7] :: xl)) := hxx
            have HYT := hyt
            simp only [hc] at HC
            replace HC := Lib.hid HC
            clear hR hxd hyd hxt hyt hc hyy hxx he
            have hf := Lib.hid (fun wq (hC : Below wr.heap.size wr wq) => (And.intro (cell_kept (bt hwr hC hwr.size) xc0) (And.intro (cell_kept (bt hwr hC hwr.size) xc1) (And.intro (cell_kept (bt hwr hC hwr.size) xc2) (And.intro (cell_kept (bt hwr hC hwr.size) xc3) (And.intro (cell_kept (bt hwr hC hwr.size) xc4) (And.intro (cell_kept (bt hwr hC hwr.size) xc5) (And.intro (cell_kept (bt hwr hC hwr.size) xc6) (And.intro (cell_kept (bt hwr hC hwr.size) yc0) (And.intro (cell_kept (bt hwr hC hwr.size) yc1) (And.intro (cell_kept (bt hwr hC hwr.size) yc2) (And.intro (cell_kept (bt hwr hC hwr.size) yc3) (And.intro (cell_kept (bt hwr hC hwr.size) yc4) (And.intro (cell_kept (bt hwr hC hwr.size) yc5) (cell_kept (bt hwr hC hwr.size) yc6)))))))))))))))
            go_wp2_with fail
            refine wp_region_bw hmx (by kernel_rfl) ?_
            repeat (refine WQ.step (fun K hK => ?_)
                    go_simp
                    first
                      | (refine hK _ ?_; clear hK K)
                      | (apply Exists.intro
                         refine ⟨fun wq hC => ?_, hK _ ?_⟩
                         · (first | with_reducible rfl | (obtain ⟨fx0, fx1, fx2, fx3, fx4, fx5, fx6, fy0, fy1, fy2, fy3, fy4, fy5, fy6⟩ := hf.out wq hC; go_simp; first | done | with_reducible rfl | with_reducible exact ⟨rfl, rfl⟩))
                         clear hK K))
            (refine WQ.step (fun K hK => ?_)
             go_simp
             first
               | (refine hK _ ?_; clear hK K)
               | (apply Exists.intro
                  refine ⟨fun wq hC => ?_, hK _ ?_⟩
                  · (refine (HC.out wq).mono ?_; rintro e w' ⟨rfl, hb⟩; exact ⟨rfl, bt hC hb hC.size⟩)
                  clear hK K))
            repeat (refine WQ.step (fun K hK => ?_)
                    go_simp
                    first
                      | (refine hK _ ?_; clear hK K)
                      | (apply Exists.intro
                         refine ⟨fun wq hC => ?_, hK _ ?_⟩
                         · (first | with_reducible rfl | (obtain ⟨fx0, fx1, fx2, fx3, fx4, fx5, fx6, fy0, fy1, fy2, fy3, fy4, fy5, fy6⟩ := hf.out wq hC; go_simp; first | done | with_reducible rfl | with_reducible exact ⟨rfl, rfl⟩))
                         clear hK K))
            refine WQ.nil ?_
            intro w4 hqw4
            have hw4 : Below W1.heap.size W1 w4 := bt hwr hqw4 hwr.size
            clear hf
            have hf := Lib.hid (fun wq (hC : Below w4.heap.size w4 wq) => (And.intro (cell_kept (bt hw4 hC hw4.size) xc0) (And.intro (cell_kept (bt hw4 hC hw4.size) xc1) (And.intro (cell_kept (bt hw4 hC hw4.size) xc2) (And.intro (cell_kept (bt hw4 hC hw4.size) xc3) (And.intro (cell_kept (bt hw4 hC hw4.size) xc4) (And.intro (cell_kept (bt hw4 hC hw4.size) xc5) (And.intro (cell_kept (bt hw4 hC hw4.size) xc6) (And.intro (cell_kept (bt hw4 hC hw4.size) yc0) (And.intro (cell_kept (bt hw4 hC hw4.size) yc1) (And.intro (cell_kept (bt hw4 hC hw4.size) yc2) (And.intro (cell_kept (bt hw4 hC hw4.size) yc3) (And.intro (cell_kept (bt hw4 hC hw4.size) yc4) (And.intro (cell_kept (bt hw4 hC hw4.size) yc5) (cell_kept (bt hw4 hC hw4.size) yc6)))))))))))))))
            go_wp2_with fail
            refine wp_region_bw hmx (by kernel_rfl) ?_
            repeat (refine WQ.step (fun K hK => ?_)
                    go_simp
                    first
                      | (refine hK _ ?_; clear hK K)
                      | (apply Exists.intro
                         refine ⟨fun wq hC => ?_, hK _ ?_⟩
                         · (first | with_reducible rfl | (obtain ⟨fx0, fx1, fx2, fx3, fx4, fx5, fx6, fy0, fy1, fy2, fy3, fy4, fy5, fy6⟩ := hf.out wq hC; go_simp; first | done | with_reducible rfl | with_reducible exact ⟨rfl, rfl⟩))
                         clear hK K))
            refine WQ.nil ?_
            intro w5 hqw5
            have hw5 : Below W1.heap.size W1 w5 := bt hw4 hqw5 hw4.size
            clear hf
            replace hqw5 := bt hqw4 hqw5 hqw4.size
            have ho2 := OwX.keep (EI.stab _) ho hqw5
            have hB2 : W1.heap.size ≤ (w5.alloc (.cells #[.int .i64 y0, .int .i64 y1, .int .i64 y2, .int .i64 y3, .int .i64 y4, .int .i64 y5, .int .i64 y6] 79)).drew.heap.size := by have := hw5.size; simp; omega
            have d0 := cell_kept hw5 yc0
            have d1 := cell_kept hw5 yc1
            have d2 := cell_kept hw5 yc2
            have d3 := cell_kept hw5 yc3
            have d4 := cell_kept hw5 yc4
            have d5 := cell_kept hw5 yc5
            have d6 := cell_kept hw5 yc6
            have hc9 := hcs7.out y0 y1 y2 y3 y4 y5 y6
            have hbA : Below w5.heap.size w5 (w5.alloc (.cells #[.int .i64 y0, .int .i64 y1, .int .i64 y2, .int .i64 y3, .int .i64 y4, .int .i64 y5, .int .i64 y6] 79)).drew := ((Below.refl _ _).alloc (Nat.le_refl _) _).drew
            have hbl := World.block_lt_of_cell? W1 _ yc0
            clear yc0 yc1 yc2 yc3 yc4 yc5 yc6
            go_wp2_with fail
            go_region_held3 (fun w' => w'.cell? ⟨yb, yo, none⟩ = some (.int .i64 y0) ∧ w'.cell? ⟨yb, yo + 1, none⟩ = some (.int .i64 y1) ∧ w'.cell? ⟨yb, yo + 2, none⟩ = some (.int .i64 y2) ∧ w'.cell? ⟨yb, yo + 3, none⟩ = some (.int .i64 y3) ∧ w'.cell? ⟨yb, yo + 4, none⟩ = some (.int .i64 y4) ∧ w'.cell? ⟨yb, yo + 5, none⟩ = some (.int .i64 y5) ∧ w'.cell? ⟨yb, yo + 6, none⟩ = some (.int .i64 y6))
              (first
                | go_keep
                | (exact ⟨cell_kept hbA d0, cell_kept hbA d1, cell_kept hbA d2, cell_kept hbA d3, cell_kept hbA d4, cell_kept hbA d5, cell_kept hbA d6⟩)
                | (exact ⟨(hb7.cell hbl).trans (cell_kept hbA d0), (hb7.cell hbl).trans (cell_kept hbA d1), (hb7.cell hbl).trans (cell_kept hbA d2), (hb7.cell hbl).trans (cell_kept hbA d3), (hb7.cell hbl).trans (cell_kept hbA d4), (hb7.cell hbl).trans (cell_kept hbA d5), (hb7.cell hbl).trans (cell_kept hbA d6)⟩))
              (first
                | ((refine step_appX (B := W1.heap.size) (cs := [.int .i64 y0, .int .i64 y1, .int .i64 y2, .int .i64 y3, .int .i64 y4, .int .i64 y5, .int .i64 y6]) (x := [y0, y1, y2, y3, y4, y5, y6]) elemRd (by decide) (by decide) (EI.stab _) (by rfl) _ _ (by rfl) (by rfl) (ho2.allocD (EI.stab _) _) ⟨w5.heap.size, 0, none⟩ 1 (by rfl) rfl (World.news_of_block (heap_alloc_new w5 _)) hc9 rfl ho9 hB2 ?_; intro v7 w7 ho7 hg7 hn7 hb7 hx7)))
            have hbz : Below W1.heap.size W1 w7 := (hw5.trans (hbA.mono hw5.size)).trans hb7
            have ho8 : OwX 79 7 EI w7 W1.heap.size v7 (o ++ [[y0, y1, y2, y3, y4, y5, y6]]).length (o ++ [[y0, y1, y2, y3, y4, y5, y6]]) := by rw [List.length_append]; exact ho7
            go_wp2
            go_roundg (gk - 1)
            case measure => exact hg0
            case rel => exact ⟨o ++ [[y0, y1, y2, y3, y4, y5, y6]], _, yl, ho8, HXT, HYT, hfm, hom, hR3, hbz⟩
end Go.Proofs.YtfihpofdoffclaaGreatDoor
