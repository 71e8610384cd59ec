/- Texts of this claim, put together: CE2. -/
import Derived.Test.YtiiiegflobihjaaGreatKAWk
import Derived.Test.YtiiiegflobihjaaGreatKAWi
import Derived.Deep.LoopGhost

/- (combine.builder).build, with the moves of combine.And$2. -/
namespace Go.Proofs.YtiiiegflobihjaaGreat
open Go.RowKit Go.ChangeMaps Go.MapKept Go.WideMaps

set_option maxRecDepth 100000 in
set_option maxHeartbeats 6400000 in
theorem build2 {w : World} {n : Int} {fs : Nd} {c1 c2 : Value} {step : Nd → List (List Int × Nd)} {P : Nd → Prop}
    (hmv : ∀ W x, Below w.heap.size w W → P x → Calls Tryz.prog 37 #[ndV x, c1, c2] W (ArOut W (step x)))
    (hP0 : P fs) (hPs : ∀ x, P x → ∀ a ∈ step x, P a.2 ∧ a.1.length = 7) (hSm : ∀ x, P x → SmN x) (hSl : ∀ x, P x → (step x).length ≤ 100000)
    {R : Option (List (List (List Int)))} (hR : exG step 300 0 [fs] [] = some R) :
    Calls Tryz.prog 32 #[.agg #[.int .i64 n, .int .i64 fs.1, .int .i64 fs.2.1, .string (bsN fs.2.2), .func (.func 37) #[] #[c1, c2]]] w (BdOut w n R) := by
  have hmm := @run_makeMap Tryz.prog
  have hSm0 := hSm fs hP0
  obtain ⟨f0, f1, f2⟩ := fs
  obtain ⟨fb, hfb⟩ : ∃ fb, bsN f2 = fb := ⟨_, rfl⟩
  simp only [hfb]
  obtain ⟨W1, hW1⟩ : ∃ W1, W1 = ((w.alloc (.cells #[.int .i64 n, .int .i64 f0, .int .i64 f1, .string fb, .func (.func 37) #[] #[c1, c2]] 65)).alloc (.cells #[.int .i64 0, .slice none 0 0] 24)).alloc (.cells #[.int .i64 n, .slice none 0 0] 24) := ⟨_, rfl⟩
  have hs1 : W1.heap.size = w.heap.size + 3 := by rw [hW1]; simp
  have hb1 : Below w.heap.size w W1 := by rw [hW1]; exact (((Below.refl _ w).alloc (Nat.le_refl _) _).alloc (by simp) _).alloc (by simp; omega) _
  have kB : W1.heap[w.heap.size]? = some (.cells #[.int .i64 n, .int .i64 f0, .int .i64 f1, .string fb, .func (.func 37) #[] #[c1, c2]] 65) := by
    rw [hW1]; exact (Below.heap_alloc _ _ _ (by simp; omega)).trans ((Below.heap_alloc _ _ _ (by simp)).trans (heap_alloc_new w _))
  have kR : W1.heap[w.heap.size + 1]? = some (.cells #[.int .i64 0, .slice none 0 0] 24) := by
    rw [hW1]
    have := heap_alloc_new (w.alloc (.cells #[.int .i64 n, .int .i64 f0, .int .i64 f1, .string fb, .func (.func 37) #[] #[c1, c2]] 65)) (.cells #[.int .i64 0, .slice none 0 0] 24)
    rw [World.size_alloc] at this
    exact (Below.heap_alloc _ _ _ (by simp)).trans this
  have kO : W1.heap[w.heap.size + 1 + 1]? = some (.cells #[.int .i64 n, .slice none 0 0] 24) := by
    rw [hW1]
    have := heap_alloc_new ((w.alloc (.cells #[.int .i64 n, .int .i64 f0, .int .i64 f1, .string fb, .func (.func 37) #[] #[c1, c2]] 65)).alloc (.cells #[.int .i64 0, .slice none 0 0] 24)) (.cells #[.int .i64 n, .slice none 0 0] 24)
    rwa [World.size_alloc, World.size_alloc] at this
  have hmade : IM ndV (W1.alloc (.map #[] 0)) W1.heap.size [] := MX.made W1
  obtain ⟨ob, hput, hIM1⟩ := IM.put keyX_node umNode hmade (by simp) hSm0 (by simp)
  replace hput : (Instr.mapUpdate 109 (.map (some W1.heap.size)) (.agg #[.int .i64 f0, .int .i64 f1, .string (bsN f2)]) (.int .i64 0)).run Tryz.prog (W1.alloc (.map #[] 0)) = .ok () (setBlock (W1.alloc (.map #[] 0)) W1.heap.size ob) := hput
  rw [hfb] at hput
  have hmade' := hmade
  obtain ⟨es0, cl0, hes0, _⟩ := hmade'
  obtain ⟨W2, hW2⟩ : ∃ W2, W2 = (setBlock (W1.alloc (.map #[] 0)) W1.heap.size ob).alloc (.cells #[.int .i64 f0, .int .i64 f1, .string fb] 62) := ⟨_, rfl⟩
  have hs2 : W2.heap.size = w.heap.size + 5 := by rw [hW2]; simp [setBlock, hs1]
  have hsm : (setBlock (W1.alloc (.map #[] 0)) W1.heap.size ob).heap.size = w.heap.size + 4 := by simp [setBlock, hs1]
  have hbm : Below w.heap.size w (setBlock (W1.alloc (.map #[] 0)) W1.heap.size ob) := setBlock_below (hb1.alloc hb1.size _) (by omega) ob
  have hb2 : Below w.heap.size w W2 := by rw [hW2]; exact hbm.alloc hbm.size _
  have hold : ∀ k, k < w.heap.size + 3 → W2.heap[k]? = W1.heap[k]? := fun k hk => by
    rw [hW2]
    refine (Below.heap_alloc _ _ _ (by rw [hsm]; omega)).trans ((setBlock_keep ob (by rw [hs1]; omega)).trans (Below.heap_alloc _ _ _ (by rw [hs1]; exact hk)))
  have kB2 := (hold _ (by omega)).trans kB
  have kR2 := (hold _ (by omega)).trans kR
  have kO2 := (hold _ (by omega)).trans kO
  have hIM2 : IM ndV W2 (w.heap.size + 1 + 1 + 1) [(f0, f1, f2)] := by
    have h := hIM1.keep (w' := W2) (by rw [hW2]; exact Below.heap_alloc _ _ _ (by rw [hsm]; omega))
    rw [hs1] at h; exact h
  have hrow2 : OwX 62 3 ENd W2 w.heap.size (.slice (some ⟨w.heap.size + 4, 0, none⟩) 1 1) ([(f0, f1, f2)] : List Nd).length [(f0, f1, f2)] := by
    have hg : W2.heap[w.heap.size + 4]? = some (.cells #[.int .i64 f0, .int .i64 f1, .string fb] 62) := by
      rw [hW2, ← hsm]; exact heap_alloc_new _ _
    refine ⟨[.int .i64 f0, .int .i64 f1, .string fb], ⟨rfl, .inr ⟨w.heap.size + 4, 1, _, rfl, by omega, hg, Nat.le_refl _, by unfold maxLen; omega, rfl, rfl⟩⟩, rfl, ?_, ?_⟩
    · intro u hu; simp only [List.mem_cons, List.not_mem_nil, or_false] at hu; rcases hu with rfl | rfl | rfl <;> rfl
    · intro j x hj
      cases j with
      | zero => simp only [List.getElem?_cons_zero, Option.some.injEq] at hj; subst hj; show _ = _; rw [hfb]; rfl
      | succ j => simp at hj
  have gB : (setBlock (W1.alloc (.map #[] 0)) W1.heap.size ob).heap[w.heap.size]? = some (.cells #[.int .i64 n, .int .i64 f0, .int .i64 f1, .string fb, .func (.func 37) #[] #[c1, c2]] 65) := (setBlock_keep ob (by rw [hs1]; omega)).trans ((Below.heap_alloc _ _ _ (by rw [hs1]; omega)).trans kB)
  have g1 := box_cell (j := 1) gB rfl
  have g2 := box_cell (j := 2) gB rfl
  have g3 := box_cell (j := 3) gB rfl
  rw [hW1, show (((w.alloc (.cells #[.int .i64 n, .int .i64 f0, .int .i64 f1, .string fb, .func (.func 37) #[] #[c1, c2]] 65)).alloc (.cells #[.int .i64 0, .slice none 0 0] 24)).alloc (.cells #[.int .i64 n, .slice none 0 0] 24)).heap.size = w.heap.size + 1 + 1 + 1 by simp] at hput hW2 hsm g1 g2 g3
  replace hs2 := Lib.hid hs2
  replace hs1 := Lib.hid hs1
  have hsm2 := Lib.hid hsm
  clear hsm
  replace hold := Lib.hid hold
  replace hW1 := Lib.hid hW1
  replace hfb := Lib.hid hfb
  replace hmv := Lib.hid hmv
  replace hPs := Lib.hid hPs
  replace hSm := Lib.hid hSm
  replace hSl := Lib.hid hSl
  replace hR := Lib.hid hR
  clear kB kR kO hmade hIM1 hes0 hb1 hbm gB
  go_enter Tryz.func32, Tryz.ntmps32
  go_wp2_with fail
  rw [← hW2, hsm2.out]
  clear hput g1 g2 g3 hsm2
  replace hW2 := Lib.hid hW2
  clear hW2
  have hK0 : Hid (exG step 300 0 [(f0, f1, f2)] [] = some R) := hR
  go_loopg [6, 7, 8] 300 (fun f nv tv iv wr => ∃ (i : Nat) (nodes : List Nd) (out : List (List (List Int))) (sv : Value), iv = .int .i64 i ∧ tv = .int .i64 (movesN out : Nat) ∧ OwX 62 3 ENd wr w.heap.size nv nodes.length nodes ∧ IM ndV wr (w.heap.size + 1 + 1 + 1) nodes ∧ wr.heap[w.heap.size + 1 + 1]? = some (.cells #[.int .i64 n, sv] 24) ∧
    OwX 59 1 ESt wr w.heap.size sv out.length out ∧ Below w.heap.size w wr ∧ wr.heap[w.heap.size]? = some (.cells #[.int .i64 n, .int .i64 f0, .int .i64 f1, .string fb, .func (.func 37) #[] #[c1, c2]] 65) ∧ wr.heap[w.heap.size + 1]? = some (.cells #[.int .i64 0, .slice none 0 0] 24) ∧
    Hid (exG step f i nodes out = some R) ∧ i ≤ nodes.length ∧ nodes.length ≤ 256 ∧ movesN out ≤ 4096 ∧ out.length = i ∧ Hid ((∀ x ∈ nodes, P x) ∧ nodes.Nodup))
  case atStart => exact ⟨0, [(f0, f1, f2)], [], .slice none 0 0, rfl, rfl, hrow2, hIM2, kO2, OwX.nil _ _, hb2, kB2, kR2, hK0, by simp, by simp, by simp [movesN], rfl, ⟨by intro x hx; rw [List.mem_singleton.1 hx]; exact hP0, by simp⟩⟩
  case round =>
    clear hK0 hrow2 hIM2 kO2 hb2 kB2 kR2
    obtain ⟨i, nodes, out, sv, rfl, rfl, hnd, hIM, kO, hst, hbw, kB, kR, hg, hi, hn256, hm4, hol, hPn⟩ := hrel
    obtain ⟨f, rfl⟩ : ∃ f, gk = f + 1 := by
      cases gk with
      | zero => exact absurd hg.out (by simp [exG])
      | succ f => exact ⟨f, rfl⟩
    have hol9 : out.length ≤ 256 := by omega
    replace hol := Lib.hid hol
    obtain ⟨sva, svc, hsv⟩ := hst.shape
    subst hsv
    by_cases hlt : i < nodes.length
    · obtain ⟨gn, cn, hnv, _⟩ := hnd.form (by omega)
      subst hnv
      obtain ⟨x, hxi⟩ : ∃ x, nodes[i]? = some x := ⟨_, List.getElem?_eq_getElem hlt⟩
      have hPx := hPn.out.1 x (List.mem_of_getElem? hxi)
      obtain ⟨e0, e1, e2⟩ := ndCells hnd hxi
      have b4 := box_cell (j := 4) kB rfl
      have HM := Lib.hid (hmv.out wr.drew x hbw.drew hPx)
      obtain ⟨st, hstp⟩ : ∃ st, step x = st := ⟨_, rfl⟩
      have hsl := hSl.out x hPx
      have hps := Lib.hid (hPs.out x hPx)
      rw [hstp] at HM hsl hps
      obtain ⟨x0, x1, x2⟩ := x
      obtain ⟨xb, hxb⟩ : ∃ xb, bsN x2 = xb := ⟨_, rfl⟩
      simp only [ndV, hxb] at HM e0 e1 e2
      have hii : (i : Int) < (nodes.length : Int) := by omega
      have ih3 : i * 3 + 1 + 1 = i * 3 + 2 := rfl
      replace hstp := Lib.hid hstp
      replace hxi := Lib.hid hxi
      replace hxb := Lib.hid hxb
      go_wp2_with fail
      go_region_held3 (fun w' => w'.cell? ⟨w.heap.size, 4, none⟩ = some (.func (.func 37) #[] #[c1, c2]) ∧ w'.cell? ⟨gn, i * 3, none⟩ = some (.int .i64 x0) ∧ w'.cell? ⟨gn, i * 3 + 1, none⟩ = some (.int .i64 x1) ∧ w'.cell? ⟨gn, i * 3 + 2, none⟩ = some (.string xb))
        (first
          | go_keep
          | (exact ⟨cell_kept hbC b4, cell_kept hbC e0, cell_kept hbC e1, cell_kept hbC e2⟩))
        (first
          | (go_at_call 37; refine HM.out.mono ?_; rintro e wC ⟨uC, rfl, hAr, hbC⟩; obtain ⟨ua, uc, rfl⟩ := hAr.shape))
      have hbrC := below_of_drew hbC
      have hbwC := bt hbw hbrC hbw.size
      have hndC := hnd.keep (ENd.stab _) hbrC
      have hIMC := hIM.keep (hbrC.block _ hIM.lt)
      have kOC := (hbrC.block _ (Array.getElem?_eq_some_iff.1 kO).1).trans kO
      have kBC := (hbrC.block _ (Array.getElem?_eq_some_iff.1 kB).1).trans kB
      have kRC := (hbrC.block _ (Array.getElem?_eq_some_iff.1 kR).1).trans kR
      have hstC := hst.keep (ESt.stab (by decide)) hbrC
      have hnP : Hid (∀ k z, z ∈ exN nodes (st.take k) → P z) := fun k z hz => by
        rcases exN_mem hz with hz | ⟨a, ha, rfl⟩
        · exact hPn.out.1 z hz
        · exact (hps.out a (List.mem_of_mem_take ha)).1
      have hnD : Hid (∀ k, (exN nodes (st.take k)).Nodup) := fun k => exN_nodup hPn.out.2
      have hnL : Hid (∀ k, (exN nodes (st.take k)).length ≤ 100256) := fun k => by
        have h1 := exN_len (nodes := nodes) (az := st.take k)
        have h2 := List.length_take_le' k st
        omega
      have hl0 : OwX 58 8 EI wC wC.heap.size (.slice none 0 0) 0 ((exL nodes st).take 0) := OwX.nil _ _
      have hX0 : KeepX 62 wC wC := KeepX.below (Below.refl _ _)
      have hell : (exL nodes st).length = st.length := exL_length
      replace hell := Lib.hid hell
      clear hnd hIM kO kB kR hst e0 e1 e2 b4 HM ih3
      obtain ⟨wo, hwo⟩ : ∃ wo, wo = wr := ⟨_, rfl⟩
      subst hwo
      go_wp2_with fail
      go_loopw [6, 9, 38] (fun nv lv jv wr => ∃ j : Nat, jv = .int .i64 j ∧ j ≤ st.length ∧ OwX 62 3 ENd wr w.heap.size nv (exN nodes (st.take j)).length (exN nodes (st.take j)) ∧ OwX 58 8 EI wr wC.heap.size lv j ((exL nodes st).take j) ∧ IM ndV wr (w.heap.size + 1 + 1 + 1) (exN nodes (st.take j)) ∧ KeepX 62 wC wr ∧ Below w.heap.size w wr ∧ wC.heap.size ≤ wr.heap.size) (fun _ _ jv _ => st.length - (intOf jv).toNat)
      case atStart => exact ⟨0, rfl, by omega, hndC, hl0, hIMC, hX0, hbwC, Nat.le_refl _⟩
      case round =>
        clear hndC hl0 hIMC hX0
        obtain ⟨j, rfl, hj, hnd, hml, hIM, hX, hbr, hsz⟩ := hrel
        obtain ⟨la, lc, hlv⟩ := hml.shape
        subst hlv
        obtain ⟨na, nc, hnv⟩ := hnd.shape
        subst hnv
        by_cases hltj : j < st.length
        · have hji : (j : Int) < (st.length : Int) := by omega
          obtain ⟨ga, ca, hav, _⟩ := hAr.form (by omega)
          obtain ⟨rfl, rfl⟩ : ua = some ⟨ga, 0, none⟩ ∧ uc = ca := by injection hav with h1 h2 h3; exact ⟨h1, h3⟩
          obtain ⟨a, ha⟩ : ∃ a, st[j]? = some a := ⟨_, List.getElem?_eq_getElem hltj⟩
          obtain ⟨hPy, h7⟩ := hps.out a (List.mem_of_getElem? ha)
          obtain ⟨r, y⟩ := a
          obtain ⟨r0, r1, r2, r3, r4, r5, r6, rfl⟩ := seven h7
          have hSy := hSm.out y hPy
          obtain ⟨d0, d1, d2, d3, d4, d5, d6, d7, d8, d9⟩ := arCells (hAr.other (E' := 62) (EAr.stab _) (by decide) hX) ha
          obtain ⟨y0, y1, y2⟩ := y
          obtain ⟨yb, hyb⟩ : ∃ yb, bsN y2 = yb := ⟨_, rfl⟩
          simp only [hyb] at d7 d8 d9
          obtain ⟨Wb, hWb⟩ : ∃ Wb, Wb = wr.alloc (.cells #[.int .i64 r0, .int .i64 r1, .int .i64 r2, .int .i64 r3, .int .i64 r4, .int .i64 r5, .int .i64 r6, .int .i64 y0, .int .i64 y1, .string yb] 75) := ⟨_, rfl⟩
          have hbb : Below wr.heap.size wr Wb := by rw [hWb]; exact (Below.refl _ _).alloc (Nat.le_refl _) _
          have hsWb : Wb.heap.size = wr.heap.size + 1 := by rw [hWb]; simp
          have mb : Wb.heap[wr.heap.size]? = some (.cells #[.int .i64 r0, .int .i64 r1, .int .i64 r2, .int .i64 r3, .int .i64 r4, .int .i64 r5, .int .i64 r6, .int .i64 y0, .int .i64 y1, .string yb] 75) := by rw [hWb]; exact heap_alloc_new _ _
          have hndb := hnd.keep (ENd.stab _) hbb
          have hmlb := hml.keep (EI.stab _) hbb
          have hIMb := hIM.keep (hbb.block _ hIM.lt)
          have hXb : KeepX 62 wC Wb := hX.trans (KeepX.below hbb)
          have hbrb := bt hbr hbb hbr.size
          have hszb : wC.heap.size ≤ Wb.heap.size := by omega
          have hlk := IM.look keyX_node umNode zIntC hIMb (hnD.out j) (fun z hz => hSm.out z (hnP.out j z hz)) hSy
          have hnl := hnL.out j
          have hj9 : j ≤ 1000000000000 := by omega
          have p0 := box_cell (j := 0) mb rfl
          have p1 := box_cell (j := 1) mb rfl
          have p2 := box_cell (j := 2) mb rfl
          have p3 := box_cell (j := 3) mb rfl
          have p4 := box_cell (j := 4) mb rfl
          have p5 := box_cell (j := 5) mb rfl
          have p6 := box_cell (j := 6) mb rfl
          have p7 := box_cell (j := 7) mb rfl
          have p8 := box_cell (j := 8) mb rfl
          have p9 := box_cell (j := 9) mb rfl
          simp only [ndV, hyb] at hlk
          clear hnd hml hIM
          rcases hlk with ⟨hni, _, hlk⟩ | ⟨hin, _, hlk⟩
          · have hsn := Lib.hid (exL_out' (nodes := nodes) ha hni)
            have hnn := Lib.hid (exN_out' (nodes := nodes) ha hni)
            obtain ⟨ob2, hput2, hIMp⟩ := IM.put keyX_node umNode hIMb (fun z hz => hSm.out z (hnP.out j z hz)) hSy hni
            simp only [ndV, hyb] at hput2
            obtain ⟨Wp, hWp⟩ : ∃ Wp, Wp = setBlock Wb (w.heap.size + 1 + 1 + 1) ob2 := ⟨_, rfl⟩
            have hbrp : Below w.heap.size w Wp := by rw [hWp]; exact setBlock_below hbrb (by omega) ob2
            have hsWp : Wp.heap.size = Wb.heap.size := by rw [hWp]; simp [setBlock]
            have hXm : KeepX 65 Wb Wp := by rw [hWp]; exact hIMb.keepX _ ob2
            have hXm2 : KeepX 62 Wb Wp := by rw [hWp]; exact hIMb.keepX _ ob2
            have hndp := hndb.other (E' := 65) (ENd.stab _) (by decide) hXm
            have hmlp := hmlb.other (E' := 65) (EI.stab _) (by decide) hXm
            have mp := hXm.size mb (by decide)
            rw [← hWp] at hput2 hIMp
            obtain ⟨L, hL⟩ : ∃ L, (exN nodes (st.take j)).length = L := ⟨_, rfl⟩
            rw [hL] at hput2 hnl hndp hndb ⊢
            rw [hL] at hsn
            have hsn2 := Lib.hid (show (exL nodes st).take (j + 1) = (exL nodes st).take j ++ [[r0, r1, r2, r3, r4, r5, r6, (L : Int)]] from hsn.out)
            clear hsn
            have hsn := hsn2
            clear hsn2
            have hL2 : (exN nodes (st.take (j + 1))).length = L + 1 := by rw [hnn.out, List.length_append, hL]; rfl
            replace hL2 := Lib.hid hL2
            have hEn : ENd Wp [.int .i64 y0, .int .i64 y1, .string yb] (y0, y1, y2) := by show _ = _; rw [hyb]
            have hc3 : ∀ u ∈ (#[.int .i64 y0, .int .i64 y1, .string yb] : Array Value).toList, u.oneCell' = true := fun u hu => by
              simp only [List.mem_cons, List.not_mem_nil, or_false] at hu
              rcases hu with rfl | rfl | rfl <;> rfl
            have hc8 : ∀ u ∈ (#[.int .i64 r0, .int .i64 r1, .int .i64 r2, .int .i64 r3, .int .i64 r4, .int .i64 r5, .int .i64 r6, .int .i64 (L : Int)] : Array Value).toList, u.oneCell' = true := fun u hu => by
              simp only [List.mem_cons, List.not_mem_nil, or_false] at hu
              rcases hu with rfl | rfl | rfl | rfl | rfl | rfl | rfl | rfl <;> rfl
            have hL9 : L ≤ 1000000000000 := by omega
            have hB9 : w.heap.size ≤ Wp.heap.size := hbrp.size
            have m0 := box_cell (j := 0) mp rfl
            have m1 := box_cell (j := 1) mp rfl
            have m2 := box_cell (j := 2) mp rfl
            have m3 := box_cell (j := 3) mp rfl
            have m4 := box_cell (j := 4) mp rfl
            have m5 := box_cell (j := 5) mp rfl
            have m6 := box_cell (j := 6) mp rfl
            have m7 := box_cell (j := 7) mp rfl
            have m8 := box_cell (j := 8) mp rfl
            have m9 := box_cell (j := 9) mp rfl
            have hszp : wC.heap.size ≤ Wp.heap.size := by omega
            rw [hWb] at hlk hput2
            replace hc3 := Lib.hid hc3
            replace hc8 := Lib.hid hc8
            replace hEn := Lib.hid hEn
            replace hL := Lib.hid hL
            replace hyb := Lib.hid hyb
            replace ha := Lib.hid ha
            replace hWp := Lib.hid hWp
            replace hsWp := Lib.hid hsWp
            replace hsWb := Lib.hid hsWb
            clear hWb hni hSy hndb hmlb hIMb p0 p1 p2 p3 p4 p5 p6 p7 p8 p9
            go_wp2_with (at_builtin; refine wpAppX (x := (y0, y1, y2)) elemNd (by decide) (by decide) (ENd.stab _) rfl _ _ rfl rfl hndp rfl rfl rfl hc3.out hEn.out hL9 hB9 ?_)
            intro nv2 w2 hnd2 hg2 hb2 hx2
            have hIM2 := hIMp.grown hndp hg2
            have hml2 := hmlp.other (E' := 62) (EI.stab _) (by decide) hx2
            have mq := hx2.size mp (by decide)
            have q0 := box_cell (j := 0) mq rfl
            have q1 := box_cell (j := 1) mq rfl
            have q2 := box_cell (j := 2) mq rfl
            have q3 := box_cell (j := 3) mq rfl
            have q4 := box_cell (j := 4) mq rfl
            have q5 := box_cell (j := 5) mq rfl
            have q6 := box_cell (j := 6) mq rfl
            have hX2 := (hXb.trans hXm2).trans hx2
            have hbr2 := hbrp.trans hb2
            have hsz2 : wC.heap.size ≤ w2.heap.size := Nat.le_trans hszp hg2.size
            have hEI : EI w2 [.int .i64 r0, .int .i64 r1, .int .i64 r2, .int .i64 r3, .int .i64 r4, .int .i64 r5, .int .i64 r6, .int .i64 (L : Int)] [r0, r1, r2, r3, r4, r5, r6, (L : Int)] := rfl
            replace hEI := Lib.hid hEI
            obtain ⟨na2, nc2, hnv2⟩ := hnd2.shape
            subst hnv2
            clear m0 m1 m2 m3 m4 m5 m6 m7 m8 m9 hndp hmlp hIMp
            go_wp2_with (at_builtin; refine wpAppX (x := [r0, r1, r2, r3, r4, r5, r6, (L : Int)]) elemMv (by decide) (by decide) (EI.stab _) rfl _ _ rfl rfl hml2 rfl rfl rfl hc8.out hEI.out hj9 hsz2 ?_)
            intro lv3 w3 hml3 hg3 hb3 hx3
            have hnd3 := hnd2.other (E' := 58) (ENd.stab _) (by decide) hx3
            have hIM3 := hIM2.grown hml2 hg3
            have hX3 := hX2.behind hb3
            have hbr3 := hbr2.trans (hb3.mono hbwC.size)
            have hsz3 : wC.heap.size ≤ w3.heap.size := Nat.le_trans hsz2 hg3.size
            rw [← hnn.out] at hnd3 hIM3
            rw [← hsn.out] at hml3
            clear hnd2 hml2 hIM2 q0 q1 q2 q3 q4 q5 q6 hX2
            go_wp2
            go_roundw
            case rel => exact ⟨j + 1, by go_num, hltj, by rw [hL2.out]; exact hnd3, hml3, hIM3, hX3, hbr3, hsz3⟩
            case measure => simp [intOf]; omega
          · have hsn := Lib.hid (exL_in' (nodes := nodes) ha hin)
            have hnn := Lib.hid (exN_in' (nodes := nodes) ha hin)
            obtain ⟨q, hq⟩ : ∃ q, ixOf (exN nodes (st.take j)) (y0, y1, y2) = q := ⟨_, rfl⟩
            rw [hq] at hlk hsn
            have hsn2 := Lib.hid (show (exL nodes st).take (j + 1) = (exL nodes st).take j ++ [[r0, r1, r2, r3, r4, r5, r6, (q : Int)]] from hsn.out)
            clear hsn
            have hsn := hsn2
            clear hsn2
            have hc8 : ∀ u ∈ (#[.int .i64 r0, .int .i64 r1, .int .i64 r2, .int .i64 r3, .int .i64 r4, .int .i64 r5, .int .i64 r6, .int .i64 (q : Int)] : Array Value).toList, u.oneCell' = true := fun u hu => by
              simp only [List.mem_cons, List.not_mem_nil, or_false] at hu
              rcases hu with rfl | rfl | rfl | rfl | rfl | rfl | rfl | rfl <;> rfl
            have hEI : EI Wb [.int .i64 r0, .int .i64 r1, .int .i64 r2, .int .i64 r3, .int .i64 r4, .int .i64 r5, .int .i64 r6, .int .i64 (q : Int)] [r0, r1, r2, r3, r4, r5, r6, (q : Int)] := rfl
            rw [hWb] at hlk
            replace hc8 := Lib.hid hc8
            replace hEI := Lib.hid hEI
            replace hyb := Lib.hid hyb
            replace hq := Lib.hid hq
            replace ha := Lib.hid ha
            replace hin := Lib.hid hin
            have hsWb2 : wr.heap.size + 1 = Wb.heap.size := hsWb.symm
            replace hsWb := Lib.hid hsWb
            replace hsWb2 := Lib.hid hsWb2
            clear hSy p0 p1 p2 p3 p4 p5 p6 p7 p8 p9
            go_wp2_with (at_builtin; rw [← hWb]; refine wpAppX (x := [r0, r1, r2, r3, r4, r5, r6, (q : Int)]) elemMv (by decide) (by decide) (EI.stab _) rfl _ _ rfl rfl hmlb rfl hsWb2.out rfl hc8.out hEI.out hj9 hszb ?_)
            intro lv3 w3 hml3 hg3 hb3 hx3
            rw [← hWb] at hg3 hb3 hx3
            have hnd3 := hndb.other (E' := 58) (ENd.stab _) (by decide) hx3
            have hIM3 := hIMb.grown hmlb hg3
            have hX3 := hXb.behind hb3
            have hbr3 := hbrb.trans (hb3.mono hbwC.size)
            have hsz3 : wC.heap.size ≤ w3.heap.size := Nat.le_trans hszb hg3.size
            rw [← hnn.out] at hIM3
            rw [← hsn.out] at hml3
            replace hWb := Lib.hid hWb
            clear hndb hmlb hIMb
            go_wp2
            go_roundw
            case rel => exact ⟨j + 1, by go_num, hltj, by rw [hnn.out]; exact hnd3, hml3, hIM3, hX3, hbr3, hsz3⟩
            case measure => simp [intOf]; omega
        · obtain rfl : j = st.length := by omega
          have hge : ¬ ((st.length : Int) < (st.length : Int)) := by omega
          have hlt2 : (exL nodes st).take st.length = exL nodes st := by rw [← hell.out, List.take_length]
          rw [hlt2] at hml
          rw [List.take_length] at hnd hIM ⊢
          have hNP := Lib.hid (fun z (hz : z ∈ exN nodes st) => by have := hnP.out st.length z; rw [List.take_length] at this; exact this hz)
          have hND : Hid ((exN nodes st).Nodup) := by have := hnD.out st.length; rwa [List.take_length] at this
          have hNL : (exN nodes st).length ≤ 100256 := by have := hnL.out st.length; rwa [List.take_length] at this
          have hst' := hstC.other (E' := 62) (ESt.stab (by decide)) (by decide) hX
          have kO := hX.size kOC (by decide)
          have kB := hX.size kBC (by decide)
          have kR := hX.size kRC (by decide)
          have hES : ESt wr [.slice la st.length lc] (exL nodes st) := ⟨_, rfl, by rw [hell.out]; exact hml.base (Nat.zero_le _)⟩
          have hmN := movesN_snoc out (exL nodes st)
          have hNg : nodes.length ≤ (exN nodes st).length := exN_ge
          rw [hell.out] at hmN
          have hgo := Lib.hid (fun (hb : ¬ (256 < (exN nodes st).length ∨ 4096 < movesN (out ++ [exL nodes st]))) => show exG step f (i + 1) (exN nodes st) (out ++ [exL nodes st]) = some R by
            rw [← hg.out]
            have h := exG_step (step := step) (f := f) (out := out) hxi.out (by rw [hstp.out]; exact hb)
            rw [hstp.out] at h
            exact h.symm)
          have hno := Lib.hid (fun (hb : 256 < (exN nodes st).length ∨ 4096 < movesN (out ++ [exL nodes st])) => show R = none by
            have h := exG_big (step := step) (f := f) (out := out) hxi.out (by rw [hstp.out]; exact hb)
            have h2 := hg.out
            rw [h] at h2
            injection h2 with h2
            exact h2.symm)
          rw [hmN] at hgo hno
          obtain ⟨Nn, hNn⟩ : ∃ Nn, exN nodes st = Nn := ⟨_, rfl⟩
          obtain ⟨l, hl⟩ : ∃ l, exL nodes st = l := ⟨_, rfl⟩
          rw [hNn] at hnd hIM hNP hND hNL hgo hno hNg ⊢
          rw [hl] at hml hES hgo hmN
          obtain ⟨M, hM⟩ : ∃ M, movesN out = M := ⟨_, rfl⟩
          rw [hM] at hgo hno hmN hm4
          have hc1 : ∀ u ∈ (#[.slice la st.length lc] : Array Value).toList, u.oneCell' = true := fun u hu => by
            rw [List.mem_singleton.1 hu]; rfl
          have hn9 : out.length ≤ 1000000000000 := by omega
          have d1 := box_cell (j := 1) kO rfl
          have hB9 : w.heap.size ≤ wr.heap.size := hbr.size
          replace hc1 := Lib.hid hc1
          replace hES := Lib.hid hES
          replace hmN := Lib.hid hmN
          replace hNn := Lib.hid hNn
          replace hl := Lib.hid hl
          replace hell := Lib.hid hell
          clear hlt2 hnP hnD hnL hX hbwC hbrC hAr kOC kBC kRC hstC hg
          rw [hM]
          go_wp2_with (at_builtin; refine wpAppX (x := l) elemSt (by decide) (by decide) (ESt.stab (by decide)) rfl _ _ rfl rfl hst' rfl rfl rfl hc1.out hES.out hn9 hB9 ?_)
          intro sv2 w2 hst2 hg2 hb2 hx2
          obtain ⟨v2a, v2c, hsv2⟩ := hst2.shape
          subst hsv2
          have kO2 := hx2.size kO (by decide)
          have kB2 := hx2.size kB (by decide)
          have kR2 := hx2.size kR (by decide)
          have hnd2 := hnd.other (E' := 59) (ENd.stab _) (by decide) hx2
          have hIM2 := hIM.grown hst' hg2
          have hbr2 := hbr.trans hb2
          obtain ⟨e0, e1⟩ := box2 kO2
          have ef1 := row_free kO2 1
          obtain ⟨w3, hw3⟩ : ∃ w3, w3 = w2.setCell ⟨w.heap.size + 1 + 1, 1, none⟩ (.slice v2a (out.length + 1) v2c) := ⟨_, rfl⟩
          have kO3 : w3.heap[w.heap.size + 1 + 1]? = some (.cells #[.int .i64 n, .slice v2a (out.length + 1) v2c] 24) := by rw [hw3]; exact two_setCell kO2
          have hX3 : KeepX 24 w2 w3 := by rw [hw3]; exact KeepX.setCell (p := ⟨w.heap.size + 1 + 1, 1, none⟩) kO2 _
          have hst3 := hst2.other (E' := 24) (ESt.stab (by decide)) (by decide) hX3
          have hnd3 := hnd2.other (E' := 24) (ENd.stab _) (by decide) hX3
          have hIM3 : IM ndV w3 (w.heap.size + 1 + 1 + 1) Nn := hIM2.keep (by rw [hw3]; exact Below.heap_setCell _ _ _ _ (by show w.heap.size + 1 + 1 + 1 ≠ w.heap.size + 1 + 1; omega))
          have kB3 := hX3.size kB2 (by decide)
          have kR3 : w3.heap[w.heap.size + 1]? = some (.cells #[.int .i64 0, .slice none 0 0] 24) := by rw [hw3]; exact (Below.heap_setCell _ _ _ _ (by show w.heap.size + 1 ≠ w.heap.size + 1 + 1; omega)).trans kR2
          have hbr3 : Below w.heap.size w w3 := by rw [hw3]; exact Below.setCell (p := ⟨w.heap.size + 1 + 1, 1, none⟩) hbr2 (by show w.heap.size ≤ w.heap.size + 1 + 1; omega) _
          obtain ⟨y0, y1⟩ := box2 kR3
          have yf0 := row_free kR3 0
          have yf1 := row_free kR3 1
          have z0 : w3.setCell ⟨w.heap.size + 1, 0, none⟩ (.int .i64 0) = w3 := setSame y0
          have z1 : w3.setCell ⟨w.heap.size + 1, 1, none⟩ (.slice none 0 0) = w3 := setSame y1
          replace hw3 := Lib.hid hw3.symm
          clear kO kB kR hst' hnd hIM kO2 kB2 kR2 hst2 hnd2 hIM2 d1
          by_cases h1 : 256 < Nn.length
          · have hd : decide (256 < (Nn.length : Int)) = true := decide_eq_true (by omega)
            have hRn := hno.out (.inl h1)
            subst hRn
            replace h1 := Lib.hid h1
            rw [← hw3.out] at y0 y1 yf0 yf1 z0 z1
            go_wp2
            refine bodyPost_ret (v := .tuple #[.agg #[.int .i64 0, .slice none 0 0], .int .i64 17]) (by simp [results, Tryz.results32, go_sem, y0, y1]) rfl ?_
            rw [hw3.out]
            exact BdOut.no hbr3
          · have hd : decide (256 < (Nn.length : Int)) = false := decide_eq_false (by omega)
            by_cases h2 : 4096 < M + st.length
            · have hd2 : decide (4096 < (M : Int) + (st.length : Int)) = true := decide_eq_true (by omega)
              have hRn := hno.out (.inr h2)
              subst hRn
              replace h1 := Lib.hid h1
              replace h2 := Lib.hid h2
              rw [← hw3.out] at y0 y1 yf0 yf1 z0 z1
              go_wp2
              refine bodyPost_ret (v := .tuple #[.agg #[.int .i64 0, .slice none 0 0], .int .i64 17]) (by simp [results, Tryz.results32, go_sem, y0, y1]) rfl ?_
              rw [hw3.out]
              exact BdOut.no hbr3
            · have hd2 : decide (4096 < (M : Int) + (st.length : Int)) = false := decide_eq_false (by omega)
              have hg3 := hgo.out (fun h => by rcases h with h | h; exact h1 h; exact h2 h)
              replace hg3 := Lib.hid hg3
              have hn3 : Nn.length ≤ 256 := by omega
              have hi3 : i + 1 ≤ Nn.length := by omega
              have hm3 : movesN (out ++ [l]) ≤ 4096 := by rw [hmN.out]; omega
              have hol3 : (out ++ [l]).length = i + 1 := by rw [List.length_append, hol.out]; rfl
              replace hol3 := Lib.hid hol3
              replace hm3 := Lib.hid hm3
              clear y0 y1 yf0 yf1 z0 z1
              go_wp2
              rw [hw3.out]
              go_roundg f
              case measure => omega
              case rel => exact ⟨i + 1, Nn, out ++ [l], .slice v2a (out.length + 1) v2c, by go_num, by rw [hmN.out]; go_num, hnd3, hIM3, kO3, by rw [List.length_append]; exact hst3, hbr3, kB3, kR3, hg3, hi3, hn3, hm3.out, hol3.out, ⟨hNP.out, hND.out⟩⟩
    · have hRs : R = some out := by
        have h := exG_end (step := step) (f := f) (out := out) hlt
        have h2 := hg.out
        rw [h] at h2
        injection h2 with h2
        exact h2.symm
      subst hRs
      obtain rfl : i = nodes.length := by omega
      obtain ⟨na, nc, hnv⟩ := hnd.shape
      subst hnv
      have hge : ¬ ((nodes.length : Int) < (nodes.length : Int)) := by omega
      obtain ⟨d0, d1⟩ := box2 kO
      obtain ⟨y0, y1⟩ := box2 kR
      have yf := row_free kR
      have hr1 := heap_setCell_same wr (w.heap.size + 1) 0 _ _ (.int .i64 n) kR
      have hr2 := two_setCell (u := .slice sva out.length svc) hr1
      have hx2 := (KeepX.setCell (p := ⟨w.heap.size + 1, 0, none⟩) kR (.int .i64 n)).trans (KeepX.setCell (p := ⟨w.heap.size + 1, 1, none⟩) hr1 (.slice sva out.length svc))
      have hbe := (hbw.setCell (p := ⟨w.heap.size + 1, 0, none⟩) (by show w.heap.size ≤ w.heap.size + 1; omega) (.int .i64 n)).setCell (p := ⟨w.heap.size + 1, 1, none⟩) (by show w.heap.size ≤ w.heap.size + 1; omega) (.slice sva out.length svc)
      obtain ⟨z0, z1⟩ := box2 hr2
      have hfin : OwAdv ((wr.setCell ⟨w.heap.size + 1, 0, none⟩ (.int .i64 n)).setCell ⟨w.heap.size + 1, 1, none⟩ (.slice sva out.length svc)) (.agg #[.int .i64 n, .slice sva out.length svc]) n out :=
        ⟨_, rfl, (hst.other (E' := 24) (ESt.stab (by decide)) (by decide) hx2).base (Nat.zero_le _), by omega, fun x hx => by have := mem_movesN hx; omega⟩
      replace hfin := Lib.hid hfin
      clear hr1 hr2 hx2 hst hnd hIM kO
      go_wp2
      obtain ⟨W8, hW8⟩ : ∃ W8, W8 = (wr.setCell ⟨w.heap.size + 1, 0, none⟩ (.int .i64 n)).setCell ⟨w.heap.size + 1, 1, none⟩ (.slice sva out.length svc) := ⟨_, rfl⟩
      rw [← hW8] at z0 z1 hfin hbe ⊢
      clear hW8
      refine bodyPost_ret (v := .tuple #[.agg #[.int .i64 n, .slice sva out.length svc], .int .i64 0]) (by simp [results, Tryz.results32, go_sem, z0, z1]) rfl ?_
      exact BdOut.yes hfin.out hbe
end Go.Proofs.YtiiiegflobihjaaGreat
