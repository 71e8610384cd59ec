/- The walks of the reference's Generate, Format, Parse. -/
import Derived.Test.YtpjlaaldepfnkaaDoorWm
import Derived.Test.YtpjlaaldepfnkaaDoorWj
import Derived.Test.YtpjlaaldepfnkaaDoorWc
namespace Go.Proofs.YtpjlaaldepfnkaaDoor
open Go.RowKit

def closL (n : Nat) (l : List (List Int)) : List (List Int) := (clGo l 3126 0 [oneL n]).getD []
def genR (n : Int) (l : List (List Int)) : List (List Int) := if chkList n l = 0 then (everyL n.toNat).filter (fun x => decide (x ∈ closL n.toNat l)) else []
theorem chkAll_ok {n : Int} : ∀ {l : List (List Int)}, chkAll n l = 0 → ∀ a ∈ l, chk a = 0 ∧ (a.length : Int) = n
  | [], _ => by simp
  | a :: r, h => by
    rw [chkAll] at h
    by_cases h1 : chk a = 0
    · rw [if_neg (fun h => h h1)] at h
      by_cases h2 : (a.length : Int) = n
      · rw [if_neg (fun h => h h2)] at h
        intro b hb
        rcases List.mem_cons.1 hb with rfl | hb
        · exact ⟨h1, h2⟩
        · exact chkAll_ok h b hb
      · rw [if_pos h2] at h; cases h
    · rw [if_pos h1] at h; exact absurd h h1
theorem chkList_ok {n : Int} {l : List (List Int)} (h : chkList n l = 0) : (1 ≤ n ∧ n ≤ 5) ∧ l.length ≤ 1024 ∧ ∀ a ∈ l, IsP n.toNat a := by
  unfold chkList at h
  by_cases h1 : n < 1 ∨ 5 < n
  · rw [if_pos h1] at h; cases h
  · rw [if_neg h1] at h
    by_cases h2 : 1024 < l.length
    · rw [if_pos h2] at h; cases h
    · rw [if_neg h2] at h
      refine ⟨by omega, by omega, fun a ha => ?_⟩
      obtain ⟨k1, k2⟩ := chkAll_ok h a ha
      have := (chk_iff.1 k1).2
      rwa [show a.length = n.toNat by omega] at this

set_option maxRecDepth 100000 in
set_option maxHeartbeats 800000 in
theorem refGenerate {w : World} {v : Value} {l : List (List Int)} (n : Int) (h : Intss w v l) : Calls Tryd.prog 28 #[.int .i64 n, v] w (RII w (genR n l) (chkList n l)) := by
  have H := Lib.hid (refList n h)
  by_cases hz : chkList n l = 0
  · obtain ⟨hn, hl, hP⟩ := chkList_ok hz
    obtain ⟨k, rfl⟩ : ∃ k : Nat, n = k := ⟨n.toNat, by omega⟩
    obtain ⟨G, hG, hI⟩ := clGo_start (n := k) (by omega) (l := l) (by simpa using hP)
    have hL := Lib.hid (show genR k l = (everyL k).filter (fun x => decide (x ∈ G)) by rw [genR, if_pos hz, closL, Int.toNat_natCast, hG]; rfl)
    rw [hz] at H
    replace hz := Lib.hid hz
    have H2 := fun (W : World) (hW : Qt w W) => refClosure k (by omega) (h.qt hW) (by simpa using hP) hG hI
    replace H2 := Lib.hid H2
    clear hG hP h
    go_enter Tryd.func28, Tryd.ntmps28
    go_wp2_with (first | (go_at_call 33; refine H.out.mono ?_; rintro e w1 ⟨rfl, hq⟩) | (go_at_call 60; refine (H2.out _ hq).mono ?_; rintro e w2 ⟨r, rfl, ho, hb⟩))
    go_ret2
    exact RII.some hL.out hz.out ho hq.below.size (btt hq.below hb)
  · obtain ⟨E, hE⟩ : ∃ E, chkList n l = E := ⟨_, rfl⟩
    have hL := Lib.hid (show genR n l = [] by rw [genR, if_neg hz])
    rw [hE] at H hz
    replace hE := Lib.hid hE
    have hz' : (E != 0) = true := by simpa using hz
    clear hz h
    go_enter Tryd.func28, Tryd.ntmps28
    go_wp2_with (go_at_call 33; refine H.out.mono ?_; rintro e w1 ⟨rfl, hq⟩)
    go_ret2
    exact RII.none hL.out hE.out.symm hq.below

/-- The text of a permutation. -/
def textB (a : List Int) : ByteArray := match tOut a a.length 0 ByteArray.empty 0 with | some o => if o.toList = [] then { data := #[40, 41] } else o | none => ByteArray.empty
def HasText (a : List Int) : Prop := ∃ o, tOut a a.length 0 ByteArray.empty 0 = some o
theorem HasText.r {a : List Int} (h : HasText a) : textR a (textB a) := by
  obtain ⟨o, ho⟩ := h
  exact ⟨o, ho, by rw [textB, ho]⟩
/-- A text and a number. -/
def RS (w : World) (x : ByteArray) (y : Int) (e : Ending) (w' : World) : Prop := e = .returned (.tuple #[.string x, .int .i64 y]) ∧ Below w.heap.size w w'
theorem RS.mk' {w w' : World} {x x' : ByteArray} {y y' : Int} (hx : x' = x) (hy : y' = y) (hb : Below w.heap.size w w') : RS w x y (.returned (.tuple #[.string x', .int .i64 y'])) w' := by
  subst hx; subst hy; exact ⟨rfl, hb⟩
def fmtL (a : List Int) : ByteArray := if chk a = 0 then textB a else ByteArray.empty

set_option maxRecDepth 100000 in
set_option maxHeartbeats 800000 in
theorem refFormat {w : World} {u : Value} {a : List Int} (h : Ints w u a) (hT : chk a = 0 → HasText a) : Calls Tryd.prog 42 #[u] w (RS w (fmtL a) (chk a)) := by
  have H := Lib.hid (refCheck h)
  by_cases hz : chk a = 0
  · have hL := Lib.hid (show fmtL a = textB a by rw [fmtL, if_pos hz])
    obtain ⟨h1, h5, hG, _⟩ := chk_good hz
    have H2 := fun (W : World) (hW : Qt w W) => refText (h.qt hW) hG h5 (hT hz).r
    replace H2 := Lib.hid H2
    rw [hz] at H
    replace hz := Lib.hid hz
    clear hG h hT
    go_enter Tryd.func42, Tryd.ntmps42
    go_wp2_with (first | (go_at_call 20; refine H.out.mono ?_; rintro e w1 ⟨rfl, hq⟩) | (go_at_call 65; refine (H2.out _ hq).mono ?_; rintro e w2 ⟨rfl, hq2⟩))
    go_ret2
    exact RS.mk' hL.out.symm hz.out.symm (hq.trans hq2).below
  · obtain ⟨E, hE⟩ : ∃ E, chk a = E := ⟨_, rfl⟩
    have hL := Lib.hid (show fmtL a = ByteArray.empty by rw [fmtL, if_neg hz])
    rw [hE] at H hz
    replace hE := Lib.hid hE
    have hz' : (E != 0) = true := by simpa using hz
    clear hz h hT
    go_enter Tryd.func42, Tryd.ntmps42
    go_wp2_with (go_at_call 20; refine H.out.mono ?_; rintro e w1 ⟨rfl, hq⟩)
    go_ret2
    exact RS.mk' hL.out.symm hE.out.symm hq.below

def parseE (n : Int) (s : ByteArray) : Int := if n < 1 ∨ 5 < n then 2 else if 24 < s.size then 13 else if ((everyL n.toNat).find? (fun a => (textB a).toList == s.toList)).isSome then 0 else 4
def parseL (n : Int) (s : ByteArray) : List Int := if parseE n s = 0 then ((everyL n.toNat).find? (fun a => (textB a).toList == s.toList)).getD [] else []
theorem find_step {A : List (List Int)} {s : ByteArray} {k : Nat} (hk : k < A.length) {x : List Int} (hx : A.getD k [] = x) (hm : ((textB x).toList == s.toList) = true) (h : ∀ j, j < k → ((textB (A.getD j [])).toList == s.toList) = false) :
    A.find? (fun a => (textB a).toList == s.toList) = some x := by
  rw [List.find?_eq_some_iff_getElem]
  refine ⟨hm, k, hk, by rw [← hx, getD_eq hk], fun j hj => ?_⟩
  rw [← getD_eq (by omega) [], h j hj]; rfl
theorem find_none {A : List (List Int)} {s : ByteArray} (h : ∀ j, j < A.length → ((textB (A.getD j [])).toList == s.toList) = false) : A.find? (fun a => (textB a).toList == s.toList) = none := by
  rw [List.find?_eq_none]
  intro x hx
  obtain ⟨j, hj, rfl⟩ := List.mem_iff_getElem.1 hx
  rw [← getD_eq hj [], h j hj]; decide

set_option maxRecDepth 100000 in
set_option maxHeartbeats 1600000 in
theorem refParse (n : Int) (s : ByteArray) (w : World) (hs : s.size ≤ 100000) (hT : ∀ a, chk a = 0 → HasText a) : Calls Tryd.prog 44 #[.int .i64 n, .string s] w (RI w (parseL n s) (parseE n s)) := by
  by_cases h1 : n < 1
  · have hE := Lib.hid (show parseE n s = 2 by rw [parseE, if_pos (.inl h1)])
    have hL := Lib.hid (show parseL n s = [] by rw [parseL, hE.out]; rfl)
    clear hT
    go_enter Tryd.func44, Tryd.ntmps44
    go_wp2
    go_ret2
    exact RI.none hL.out hE.out.symm (Below.refl _ _)
  · have h1' : decide (n < 1) = false := by simpa using h1
    by_cases h5 : 5 < n
    · have hE := Lib.hid (show parseE n s = 2 by rw [parseE, if_pos (.inr h5)])
      have hL := Lib.hid (show parseL n s = [] by rw [parseL, hE.out]; rfl)
      clear hT
      go_enter Tryd.func44, Tryd.ntmps44
      go_wp2
      go_ret2
      exact RI.none hL.out hE.out.symm (Below.refl _ _)
    · have h5' : decide (5 < n) = false := by simpa using h5
      by_cases h24 : 24 < s.size
      · have hE := Lib.hid (show parseE n s = 13 by rw [parseE, if_neg (by omega), if_pos h24])
        have hL := Lib.hid (show parseL n s = [] by rw [parseL, hE.out]; rfl)
        clear hT
        go_enter Tryd.func44, Tryd.ntmps44
        go_wp2
        go_ret2
        exact RI.none hL.out hE.out.symm (Below.refl _ _)
      · obtain ⟨k, rfl⟩ : ∃ k : Nat, n = k := ⟨n.toNat, by omega⟩
        have hPE := Lib.hid (show parseE k s = if ((everyL k).find? (fun a => (textB a).toList == s.toList)).isSome then 0 else 4 by rw [parseE, if_neg (by omega), if_neg h24]; rfl)
        have hPL := Lib.hid (show parseL k s = if parseE k s = 0 then ((everyL k).find? (fun a => (textB a).toList == s.toList)).getD [] else [] from rfl)
        have hk5 : k ≤ 5 := by omega
        have hal5 := everyL_le k hk5
        obtain ⟨A, hA⟩ : ∃ A, everyL k = A := ⟨_, rfl⟩
        have HE := every k hk5 w
        rw [hA] at HE hal5 hPE hPL
        have hP : ∀ x ∈ A, IsP k x := fun x hx => mem_everyL.1 (hA ▸ hx)
        clear hA
        replace HE := Lib.hid HE
        go_enter Tryd.func44, Tryd.ntmps44
        go_wp2_with (go_at_call 63; refine HE.out.mono ?_; rintro e w1 ⟨r, rfl, ho, hb⟩)
        clear HE
        obtain ⟨aa, ac, ab, rfl, haa, hac⟩ := ho.open'
        obtain ⟨w2, hw2⟩ : ∃ w2, w2 = w1 := ⟨_, rfl⟩
        rw [← hw2] at ho hb hac ⊢
        clear hw2
        go_loopw [7] (fun iv wr => ∃ j : Nat, j ≤ A.length ∧ iv = .int .i64 j ∧ Hid (∀ i, i < j → ((textB (A.getD i [])).toList == s.toList) = false) ∧ Hid (Qt w2 wr)) (fun iv _ => A.length - (intOf iv).toNat)
        case atStart => exact ⟨0, by omega, rfl, by simp [Hid], Qt.refl _⟩
        case round =>
          obtain ⟨j, hj, rfl, hg, hq⟩ := hrel
          have hbw := hb.trans (hq.out.belowB w.heap.size)
          by_cases hlt : j < A.length
          · obtain rfl := haa (by omega)
            obtain ⟨u, hcu, hu⟩ := hac j hlt
            replace hcu := cell_kept hq.out.below hcu
            replace hu := hu.keep hq.out.below
            obtain ⟨x, hx⟩ : ∃ x, A.getD j [] = x := ⟨_, rfl⟩
            have hxP : IsP k x := by rw [← hx, getD_eq hlt]; exact hP _ (List.getElem_mem hlt)
            have hx5 : x.length ≤ 5 := by have := hxP.1; omega
            have hxc : chk x = 0 := chk_iff.2 ⟨by have := hxP.1; omega, by have := hxP; rwa [← hxP.1] at this⟩
            rw [hx] at hu
            have HX := refText (hu.ints (by omega)) (by rw [hxP.1]; exact hxP.good) hx5 (hT x hxc).r
            replace HX := Lib.hid HX
            obtain ⟨t, ht⟩ : ∃ t, textB x = t := ⟨_, rfl⟩
            rw [ht] at HX
            obtain ⟨ua, uc, rfl⟩ := hu.shape
            clear haa hac hP hT
            replace hx := Lib.hid hx
            by_cases hm : (t.toList == s.toList) = true
            · have hfd := Lib.hid (find_step hlt hx.out (by rw [ht]; exact hm) hg.out)
              have hE := Lib.hid (show parseE k s = 0 by rw [hPE.out, hfd.out]; rfl)
              have hL := Lib.hid (show parseL k s = x by rw [hPL.out, if_pos hE.out, hfd.out]; rfl)
              clear ht
              go_wp2_with (go_at_call 65; refine HX.out.mono ?_; rintro e w3 ⟨rfl, hq3⟩; replace hcu := cell_kept hq3.below hcu)
              go_ret2
              refine ⟨_, by rw [hE.out]; rfl, ?_, hbw.trans (hq3.belowB _)⟩
              rw [hL.out]
              exact hu.keep hq3.below
            · have hm' : (t.toList == s.toList) = false := eq_false_of_ne_true hm
              have hng := Lib.hid (show ((textB x).toList == s.toList) = false by rw [ht]; exact hm')
              clear ht hm
              go_wp2_with (go_at_call 65; refine HX.out.mono ?_; rintro e w3 ⟨rfl, hq3⟩)
              go_roundw
              case rel =>
                refine ⟨j + 1, by omega, by go_num, fun i hi => ?_, hq.out.trans hq3⟩
                by_cases hij : i < j
                · exact hg.out i hij
                · obtain rfl : i = j := by omega
                  rw [hx.out]; exact hng.out
              case measure => simp [intOf]; omega
          · obtain rfl : j = A.length := by omega
            have hfd := Lib.hid (find_none hg.out)
            have hE := Lib.hid (show parseE k s = 4 by rw [hPE.out, hfd.out]; rfl)
            have hL := Lib.hid (show parseL k s = [] by rw [hPL.out, hE.out]; rfl)
            clear haa hac hP hT
            go_wp2
            go_ret2
            exact RI.none hL.out hE.out.symm hbw
end Go.Proofs.YtpjlaaldepfnkaaDoor
