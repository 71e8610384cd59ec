/- Texts of this claim, put together: T1 X6. -/
import Derived.Test.YtfihpofdoffclaaGreatDoorZzf
import Derived.Test.YtfihpofdoffclaaGreatDoorZz
import Derived.Test.YtfihpofdoffclaaGreatDoorZx

/- State and Allows. -/
namespace Go.Proofs.YtfihpofdoffclaaGreatDoor
open Go.RowKit Go.ChangeMaps Go.MapKept Go.WideMaps

theorem look_ent {ss : List (List (List Int))} {s : Nat} {r : List Int} (hM : LeadOK ss) (hA : ∀ s ∈ ss, AscL (s.map rdOf)) (hs : s < ss.length) :
    (r ∉ ((ss.getD s []).map ent).map Prod.fst → toI r (ss.getD s []) < 0) ∧ ∀ v, (r, v) ∈ (ss.getD s []).map ent → toI r (ss.getD s []) = (v : Int) := by
  have hmem : ss.getD s [] ∈ ss := by rw [getD_eq hs]; exact List.getElem_mem hs
  have h6 : ((ss.getD s []).map ent).map Prod.fst = (ss.getD s []).map rdOf := by rw [List.map_map]; rfl
  refine ⟨fun h => ?_, fun v h => ?_⟩
  · rw [h6] at h
    rw [toI_out h]; decide
  · obtain ⟨m, hm, he⟩ := List.mem_map.1 h
    injection he with h1 h2
    subst h1
    subst h2
    have h3 := hM _ hmem m hm
    rw [toI_mem (hA _ hmem) hm]
    show _ = ((m.getD 7 0).toNat : Int)
    omega
/-- What State answers for a well-formed adversary. -/
def stA (ss : List (List (List Int))) (ps : List (List Int)) : Int × Int := if afterI ss ps 0 < 0 then (0, 25) else (afterI ss ps 0, 0)

set_option maxRecDepth 100000 in
set_option maxHeartbeats 3200000 in
theorem stateAt {w : World} {v wv : Value} {n : Int} {ss : List (List (List Int))} {ps : List (List Int)} (hA : AdvV w v n ss) (h0 : chkA n ss = 0) (hO : ClsOK ss) (hP : KS 7 w wv ps) (hw : ∀ r ∈ ps, WfR r) :
    Calls Tryz.prog 69 #[v, wv] w fun e w' => e = .returned (.tuple #[.int .i64 (stA ss ps).1, .int .i64 (stA ss ps).2]) ∧ Below w.heap.size w w' := by
  have hM := LeadOK.ofCls hO
  have hAs := ascL_of h0
  have hl0 := hO.2.2.1
  have hl90 := hO.1
  have hmv : movesN ss ≤ 1000000000 := by have := hO.2.1; omega
  have hpl := hP.len
  have hC := Lib.hid (fun W (hb : Below w.heap.size w W) => h0 ▸ checkA (hA.keep hb) hmv)
  have hI := Lib.hid (fun W (hb : Below w.heap.size w W) => indexCall (hA.keep hb) hO hAs)
  obtain ⟨sa, sc, hv⟩ := advShape' hA
  subst hv
  obtain ⟨ra, rc, rb, ro, rfl, hra, hrc, _⟩ := hP
  obtain ⟨W1, hW1⟩ : ∃ W1, W1 = w.alloc (.cells #[.int .i64 n, .slice sa ss.length sc] 24) := ⟨_, rfl⟩
  obtain ⟨hb1, p0, p1, _⟩ := boxAdv hW1
  obtain ⟨z, hz⟩ : ∃ z, afterI ss ps 0 = z := ⟨_, rfl⟩
  have hz0 : Hid (afterI ss (ps.drop 0) 0 = z) := by show _ = _; rw [List.drop_zero]; exact hz
  have hst := Lib.hid (show stA ss ps = if z < 0 then (0, 25) else (z, 0) by rw [stA, hz])
  have hWf : Hid (∀ j, j < ss.length → ∀ p ∈ (ss.getD j []).map ent, WfR p.1) := fun j hj p hp => by
    obtain ⟨m, hm, rfl⟩ := List.mem_map.1 hp
    exact ((hO.2.2.2 _ (by rw [getD_eq hj]; exact List.getElem_mem hj)).2 m hm).1
  have hmx : Tryz.prog.follows .mixedOrders = true := by kernel_rfl
  replace hrc := Lib.hid hrc
  replace hM := Lib.hid hM
  replace hAs := Lib.hid hAs
  replace hw := Lib.hid hw
  clear hA hz hO h0
  go_enter Tryz.func69, Tryz.ntmps69
  go_wp2_with fail
  rw [← hW1]
  replace hW1 := Lib.hid hW1
  refine (hC.out W1 hb1).mono ?_
  rintro e w2 ⟨rfl, hb2⟩
  have hb12 := bt hb1 hb2 hb1.size
  have q0 := cell_kept hb2 p0
  have q1 := cell_kept hb2 p1
  go_wp2_with fail
  refine (hI.out w2 hb12).mono ?_
  rintro e w3 ⟨g, rfl, hT, hb3⟩
  have hb13 := bt hb12 hb3 hb12.size
  clear p0 p1 q0 q1 hb2 hb3 hb12
  go_wp2_with fail
  go_loopw [8, 22] (fun sv jv wr => ∃ s k : Nat, sv = .int .i64 s ∧ s < ss.length ∧ jv = .int .i64 k ∧ k ≤ ps.length ∧ Hid (afterI ss (ps.drop k) s = z) ∧ Below w3.heap.size w3 wr) (fun _ jv _ => ps.length - (intOf jv).toNat)
  case atStart => exact ⟨0, 0, rfl, hl0, rfl, by omega, hz0, Below.refl _ _⟩
  case round =>
    clear hz0
    obtain ⟨s, k, rfl, hs, rfl, hk, hzk, hbr⟩ := hrel
    by_cases hlt : k < ps.length
    · obtain rfl := hra (by omega)
      obtain ⟨hx7, hxi⟩ := hrc.out k hlt
      obtain ⟨x, hx⟩ : ∃ x, ps.getD k [] = x := ⟨_, rfl⟩
      have hdr := drop_cons hlt ([] : List Int)
      have hwx := hw.out x (by rw [← hx, getD_eq hlt]; exact List.getElem_mem hlt)
      rw [hx] at hx7 hxi hdr
      rw [hdr] at hzk
      have hb1r := bt hb13 hbr hb13.size
      obtain ⟨b, hcb, hMX⟩ := hT.keep hbr s hs
      obtain ⟨W3, hW3⟩ : ∃ W3, W3 = wr.alloc (.cells ((x.map (Value.int .i64)).toArray) 79) := ⟨_, rfl⟩
      have hb4 : Below wr.heap.size wr W3 := by rw [hW3]; exact (Below.refl _ _).alloc (Nat.le_refl _) _
      have hcb3 := cell_kept hb4 hcb
      have hMX3 := hMX.keep (w' := W3) (hb4.block _ hMX.lt)
      have hb5 := btt hbr hb4
      have hz2 := hzk.out
      rw [afterI] at hz2
      obtain ⟨l1, l2⟩ := look_ent (r := x) hM.out hAs.out hs
      obtain ⟨t, ht⟩ : ∃ t, toI x (ss.getD s []) = t := ⟨_, rfl⟩
      rw [ht] at l1 l2 hz2
      have hlq := (toI_st hM.out hs x).2
      rw [ht] at hlq
      have hlook : (t < 0 ∧ ∀ d, (Instr.lookup 114 (.map (some b)) (rdV x) true).run Tryz.prog (W3.drewN d) = .ok (.tuple #[.int .i64 0, .bool false]) (W3.drewN d)) ∨
          (∃ q : Nat, t = (q : Int) ∧ ∀ d, (Instr.lookup 114 (.map (some b)) (rdV x) true).run Tryz.prog (W3.drewN d) = .ok (.tuple #[.int .i64 (q : Int), .bool true]) (W3.drewN d)) := by
        by_cases hin : ∃ v, (x, v) ∈ (ss.getD s []).map ent
        · obtain ⟨v, hv⟩ := hin
          refine .inr ⟨v, l2 v hv, fun d => ?_⟩
          rcases MX.look keyX_round umRd (zInt (W3.drewN d)) (hMX3.keep (w' := W3.drewN d) rfl) (hWf.out s hs) hwx with ⟨h, _⟩ | ⟨v', hv', _, h⟩
          · exact absurd (List.mem_map.2 ⟨_, hv, rfl⟩) h
          · have : (v' : Int) = (v : Int) := (l2 v' hv').symm.trans (l2 v hv)
            have h3 : v' = v := by omega
            subst h3; exact h
        · have hn : x ∉ ((ss.getD s []).map ent).map Prod.fst := fun h => by
            obtain ⟨⟨a, v⟩, h1, h2⟩ := List.mem_map.1 h
            subst h2
            exact hin ⟨v, h1⟩
          refine .inl ⟨l1 hn, fun d => ?_⟩
          rcases MX.look keyX_round umRd (zInt (W3.drewN d)) (hMX3.keep (w' := W3.drewN d) rfl) (hWf.out s hs) hwx with ⟨_, _, h⟩ | ⟨v', hv', _, _⟩
          · exact h
          · exact absurd ⟨v', hv'⟩ hin
      obtain ⟨x0, x1, x2, x3, x4, x5, x6, rfl⟩ := seven hx7
      obtain ⟨c0, c1, c2, c3, c4, c5, c6⟩ := (hxi.keep hb1r).all7
      have m3 : W3.heap[wr.heap.size]? = some (.cells #[.int .i64 x0, .int .i64 x1, .int .i64 x2, .int .i64 x3, .int .i64 x4, .int .i64 x5, .int .i64 x6] 79) := by rw [hW3]; exact heap_alloc_new _ _
      obtain ⟨e0, e1, e2, e3, e4, e5, e6⟩ := (box7CI m3).all7
      have hsl : (s : Int) < (ss.length : Int) := by omega
      replace hz2 := Lib.hid hz2
      clear hdr hzk hx hx7 hxi hcb hMX hMX3 l1 l2 ht hwx hWf hw
      simp only [List.map_cons, List.map_nil] at hW3
      rcases hlook with ⟨ht0, hlk⟩ | ⟨q, htq, hlk⟩
      · have hf : Hid (stA ss ps = (0, 25)) := by
          show _ = _
          have h1 := hz2.out
          rw [if_pos ht0] at h1
          rw [hst.out, if_pos (by omega)]
        clear hz2 ht0 hlq
        simp only [rdV, List.map_cons, List.map_nil] at hlk
        go_wp2_with fail
        rw [← hW3]
        clear hW3
        go_quiet (fail)
        go_wp2
        go_ret2
        exact ⟨by rw [hf.out]; rfl, below_drewN (bt hb13 hb5 hb13.size) _⟩
      · subst htq
        have hz3 : Hid (afterI ss (ps.drop (k + 1)) q = z) := by
          show _ = _
          have h1 := hz2.out
          rw [if_neg (by omega), Int.toNat_natCast] at h1
          exact h1
        have hq : q < ss.length := by omega
        clear hz2 hlq
        simp only [rdV, List.map_cons, List.map_nil] at hlk
        go_wp2_with fail
        rw [← hW3]
        clear hW3
        go_quiet (fail)
        go_wp2
        go_roundw
        case rel => exact ⟨q, k + 1, rfl, hq, by go_num, hlt, hz3, below_drewN hb5 _⟩
        case measure => simp [intOf]; omega
    · have hf : Hid (stA ss ps = ((s : Int), 0)) := by
        have h := hzk.out
        rw [List.drop_eq_nil_of_le (by omega), afterI] at h
        show _ = _
        rw [hst.out, ← h, if_neg (by omega)]
      have hkl : ¬ ((k : Int) < (ps.length : Int)) := by omega
      clear hzk
      go_wp2
      go_ret2
      exact ⟨by rw [hf.out]; rfl, bt hb13 hbr hb13.size⟩
set_option maxRecDepth 100000 in
set_option maxHeartbeats 1600000 in
theorem allowsCall {w : World} {v wv : Value} {n : Int} {ss : List (List (List Int))} {ps : List (List Int)} (hA : AdvV w v n ss) (h0 : chkA n ss = 0) (hO : ClsOK ss) (hP : KS 7 w wv ps) (hw : ∀ r ∈ ps, WfR r) :
    Calls Tryz.prog 37 #[v, wv] w fun e w' => e = .returned (.tuple #[.bool (decide (0 ≤ afterI ss ps 0)), .int .i64 0]) ∧ Below w.heap.size w w' := by
  obtain ⟨sa, sc, hv⟩ := advShape' hA
  subst hv
  obtain ⟨ra, rc, hv⟩ := hP.shape
  subst hv
  obtain ⟨W1, hW1⟩ : ∃ W1, W1 = w.alloc (.cells #[.int .i64 n, .slice sa ss.length sc] 24) := ⟨_, rfl⟩
  obtain ⟨hb1, p0, p1, _⟩ := boxAdv hW1
  have hS := stateAt (hA.keep hb1) h0 hO (hP.keep hb1) hw
  obtain ⟨z, hz⟩ : ∃ z, afterI ss ps 0 = z := ⟨_, rfl⟩
  rw [stA, hz] at hS
  rw [hz]
  clear hA hP hw hO h0 hz
  by_cases hz0 : z < 0
  · have hd : decide (0 ≤ z) = false := decide_eq_false (by omega)
    rw [if_pos hz0] at hS
    rw [hd]
    clear hd hz0
    replace hS := Lib.hid hS
    go_enter Tryz.func37, Tryz.ntmps37
    go_wp2_with fail
    rw [← hW1]
    replace hW1 := Lib.hid hW1
    refine hS.out.mono ?_
    rintro e w2 ⟨rfl, hb2⟩
    go_wp2
    go_ret2
    exact ⟨rfl, bt hb1 hb2 hb1.size⟩
  · have hd : decide (0 ≤ z) = true := decide_eq_true (by omega)
    rw [if_neg hz0] at hS
    rw [hd]
    clear hd hz0
    replace hS := Lib.hid hS
    go_enter Tryz.func37, Tryz.ntmps37
    go_wp2_with fail
    rw [← hW1]
    replace hW1 := Lib.hid hW1
    refine hS.out.mono ?_
    rintro e w2 ⟨rfl, hb2⟩
    go_wp2
    go_ret2
    exact ⟨rfl, bt hb1 hb2 hb1.size⟩
end Go.Proofs.YtfihpofdoffclaaGreatDoor

/- The law CanonicalDecides. -/
namespace Go.Proofs.YtfihpofdoffclaaGreatDoor
open Go.RowKit

theorem alw_wf {ss : List (List (List Int))} (hO : ClsOK ss) : ∀ {w : List (List Int)} {s : Nat}, s < ss.length → alw ss w s → ∀ r ∈ w, WfR r
  | [], _, _, _ => fun _ h => by cases h
  | r :: w, s, hs, h => fun x hx => by
    have hM := LeadOK.ofCls hO
    have hmem : ss.getD s [] ∈ ss := by rw [getD_eq hs]; exact List.getElem_mem hs
    rcases List.mem_cons.1 hx with rfl | hx
    · have h1 := (toI_in (r := x) (fun m hm => (hM _ hmem m hm).1)).1 h.1
      obtain ⟨m, hm, rfl⟩ := List.mem_map.1 h1
      exact ((hO.2.2.2 _ hmem).2 m hm).1
    · have h1 := (toI_st hM hs r).2
      have h0 : 0 ≤ toI r (ss.getD s []) := h.1
      exact alw_wf hO (by omega) h.2 x hx
theorem KS.take {k : Nat} {w : World} {a : Option Addr} {n c l : Nat} {xs : List (List Int)} (h : KS k w (.slice a n c) xs) (hl : l ≤ xs.length) : KS k w (.slice a l c) (xs.take l) := by
  obtain ⟨a', c', b, off, hv, ha, hc, hn⟩ := h
  injection hv with h1 h2 h3
  subst h1 h2 h3
  have hlt : (xs.take l).length = l := by rw [List.length_take]; omega
  refine ⟨a, c, b, off, by rw [hlt], fun h => ha (by omega), fun j hj => ?_, by omega⟩
  rw [hlt] at hj
  have h5 := hc j (by omega)
  have h6 : (xs.take l).getD j [] = xs.getD j [] := by
    rw [List.getD_eq_getElem?_getD, List.getElem?_take, if_pos hj, ← List.getD_eq_getElem?_getD]
  rw [h6]; exact h5
theorem OwX.capOf {α : Type} {E : TypeId} {k : Nat} {El : World → List Value → α → Prop} {w : World} {B n c : Nat} {a : Option Addr} {xs : List α} (h : OwX E k El w B (.slice a n c) n xs) (hn : 0 < n) : ∃ g, a = some ⟨g, 0, none⟩ ∧ n ≤ c := by
  obtain ⟨vs, h1, _⟩ := h
  rcases h1.2 with ⟨_, rfl⟩ | ⟨g, cap, cur, h2, _, _, h3, _⟩
  · omega
  · injection h2 with h2 _ h4
    exact ⟨g, h2, by omega⟩
theorem disOwn {w : World} {v : Value} {n : Int} {ss : List (List (List Int))} (hA : AdvV w v n ss) (h0 : chkA n ss = 0) (hl : ss.length ≤ 90) (hm : movesN ss ≤ 90) {a b : Nat} (ha : a < ss.length) (hb : b < ss.length) :
    Calls Tryz.prog 23 #[v, .int .i64 (a : Int), .int .i64 (b : Int)] w fun e w' => ∃ u, e = .returned (.tuple #[u, .bool (dist ss a b).isSome, .int .i64 0]) ∧ OwX 79 7 EI w' w.heap.size u ((dist ss a b).getD []).length ((dist ss a b).getD []) ∧ Below w.heap.size w w' :=
  disGood hA (by omega) h0 ha hb (R := dist ss a b) fun W hW => distinguishA (hA.keep hW) (clsOK_of hA.len8 h0 hl hm) (ascL_of h0) ha hb

set_option maxRecDepth 100000 in
set_option maxHeartbeats 3200000 in
theorem lawDecides {w : World} {u v : Value} {m n : Int} {xs ys : List (List (List Int))} (hx : AdvV w u m xs) (hy : AdvV w v n ys) :
    Calls Tryz.prog 9 #[u, v] w fun e w' => e = .returned (.bool true) ∧ Below w.heap.size w w' := by
  have hx8 := hx.len8
  have hy8 := hy.len8
  obtain ⟨xa, xc, hu⟩ := advShape' hx
  obtain ⟨ya, yc, hv⟩ := advShape' hy
  subst hu hv
  obtain ⟨W1, hW1⟩ : ∃ W1, W1 = (w.alloc (.cells #[.int .i64 m, .slice xa xs.length xc] 24)).alloc (.cells #[.int .i64 n, .slice ya ys.length yc] 24) := ⟨_, rfl⟩
  obtain ⟨hb1, ⟨p0, p1⟩, ⟨q0, q1⟩, _, hs1⟩ := boxAdv2 hW1
  replace hs1 := Lib.hid hs1
  have HX := Lib.hid (fun W (hb : Below W1.heap.size W1 W) => (hx.keep hb1).keep hb)
  have HY := Lib.hid (fun W (hb : Below W1.heap.size W1 W) => (hy.keep hb1).keep hb)
  have HF := Lib.hid (fun W (hb : Below W1.heap.size W1 W) => refFew (HX.out W hb))
  have HG := Lib.hid (fun W (hb : Below W1.heap.size W1 W) => refFew (HY.out W hb))
  have HC := Lib.hid (fun W (hb : Below W1.heap.size W1 W) => refCheckA (HX.out W hb))
  have HD := Lib.hid (fun W (hb : Below W1.heap.size W1 W) => refCheckA (HY.out W hb))
  have HK := Lib.hid (fun W (hb : Below W1.heap.size W1 W) => And.intro (cell_kept hb p0) (And.intro (cell_kept hb p1) (And.intro (cell_kept hb q0) (cell_kept hb q1))))
  have hfx : Hid (fewA xs = true → xs.length ≤ 8 ∧ movesN xs ≤ 40) := fun h => by simp [fewA] at h; omega
  have hfy : Hid (fewA ys = true → ys.length ≤ 8 ∧ movesN ys ≤ 40) := fun h => by simp [fewA] at h; omega
  have hl0 : w.heap.size < W1.heap.size := World.block_lt_of_cell? W1 _ p0
  have hl1 : w.heap.size + 1 < W1.heap.size := World.block_lt_of_cell? W1 _ q0
  obtain ⟨fx, hfx1⟩ : ∃ fx, fewA xs = fx := ⟨_, rfl⟩
  obtain ⟨fy, hfy1⟩ : ∃ fy, fewA ys = fy := ⟨_, rfl⟩
  obtain ⟨E, hE⟩ : ∃ E, chkA m xs = E := ⟨_, rfl⟩
  obtain ⟨F, hF⟩ : ∃ F, chkA n ys = F := ⟨_, rfl⟩
  rw [hfx1] at hfx
  rw [hfy1] at hfy
  simp only [hfx1] at HF
  simp only [hfy1] at HG
  simp only [hE] at HC
  simp only [hF] at HD
  replace hfx1 := Lib.hid hfx1
  replace hfy1 := Lib.hid hfy1
  replace hE := Lib.hid hE
  replace hF := Lib.hid hF
  clear hx hy
  cases fx
  · have _ := hfx1
    go_enter Tryz.func9, Tryz.ntmps9
    go_wp2_with fail
    rw [← hW1]
    obtain ⟨a0, a1, a2, a3⟩ := HK.out W1 (Below.refl _ _)
    have B1 : Below W1.heap.size W1 W1 := Below.refl _ _
    refine (HF.out W1 B1).mono ?_
    rintro e W2 ⟨rfl, hb2⟩
    have B2 := btt B1 hb2
    clear a0 a1 a2 a3
    obtain ⟨a0, a1, a2, a3⟩ := HK.out W2 B2
    go_wp2_with fail
    refine (awakeK W2 (bt hb1 B2 hb1.size) (Nat.le_trans hb1.size B2.size)).mono ?_
    rintro e W3 ⟨rfl, hb3⟩
    go_wp2
    go_ret
    exact ⟨rfl, hb3⟩
  · cases fy
    · have _ := hfx1
      go_enter Tryz.func9, Tryz.ntmps9
      go_wp2_with fail
      rw [← hW1]
      obtain ⟨a0, a1, a2, a3⟩ := HK.out W1 (Below.refl _ _)
      have B1 : Below W1.heap.size W1 W1 := Below.refl _ _
      refine (HF.out W1 B1).mono ?_
      rintro e W2 ⟨rfl, hb2⟩
      have B2 := btt B1 hb2
      clear a0 a1 a2 a3
      obtain ⟨a0, a1, a2, a3⟩ := HK.out W2 B2
      go_wp2_with fail
      refine (HG.out W2 B2).mono ?_
      rintro e W3 ⟨rfl, hb3⟩
      have B3 := btt B2 hb3
      clear a0 a1 a2 a3
      obtain ⟨a0, a1, a2, a3⟩ := HK.out W3 B3
      go_wp2_with fail
      refine (awakeK W3 (bt hb1 B3 hb1.size) (Nat.le_trans hb1.size B3.size)).mono ?_
      rintro e W4 ⟨rfl, hb4⟩
      go_wp2
      go_ret
      exact ⟨rfl, hb4⟩
    · by_cases hE0 : E = 0
      case neg =>
        have hE1 : (E != 0) = true := by simpa using hE0
        go_enter Tryz.func9, Tryz.ntmps9
        go_wp2_with fail
        rw [← hW1]
        obtain ⟨a0, a1, a2, a3⟩ := HK.out W1 (Below.refl _ _)
        have B1 : Below W1.heap.size W1 W1 := Below.refl _ _
        refine (HF.out W1 B1).mono ?_
        rintro e W2 ⟨rfl, hb2⟩
        have B2 := btt B1 hb2
        clear a0 a1 a2 a3
        obtain ⟨a0, a1, a2, a3⟩ := HK.out W2 B2
        go_wp2_with fail
        refine (HG.out W2 B2).mono ?_
        rintro e W3 ⟨rfl, hb3⟩
        have B3 := btt B2 hb3
        clear a0 a1 a2 a3
        obtain ⟨a0, a1, a2, a3⟩ := HK.out W3 B3
        go_wp2_with fail
        refine (HC.out W3 B3).mono ?_
        rintro e W4 ⟨rfl, hb4⟩
        have B4 := btt B3 hb4
        clear a0 a1 a2 a3
        obtain ⟨a0, a1, a2, a3⟩ := HK.out W4 B4
        go_wp2_with fail
        refine (awakeK W4 (bt hb1 B4 hb1.size) (Nat.le_trans hb1.size B4.size)).mono ?_
        rintro e W5 ⟨rfl, hb5⟩
        go_wp2
        go_ret
        exact ⟨rfl, hb5⟩
      case pos =>
        subst hE0
        by_cases hF0 : F = 0
        case neg =>
          have hF1 : (F != 0) = true := by simpa using hF0
          go_enter Tryz.func9, Tryz.ntmps9
          go_wp2_with fail
          rw [← hW1]
          obtain ⟨a0, a1, a2, a3⟩ := HK.out W1 (Below.refl _ _)
          have B1 : Below W1.heap.size W1 W1 := Below.refl _ _
          refine (HF.out W1 B1).mono ?_
          rintro e W2 ⟨rfl, hb2⟩
          have B2 := btt B1 hb2
          clear a0 a1 a2 a3
          obtain ⟨a0, a1, a2, a3⟩ := HK.out W2 B2
          go_wp2_with fail
          refine (HG.out W2 B2).mono ?_
          rintro e W3 ⟨rfl, hb3⟩
          have B3 := btt B2 hb3
          clear a0 a1 a2 a3
          obtain ⟨a0, a1, a2, a3⟩ := HK.out W3 B3
          go_wp2_with fail
          refine (HC.out W3 B3).mono ?_
          rintro e W4 ⟨rfl, hb4⟩
          have B4 := btt B3 hb4
          clear a0 a1 a2 a3
          obtain ⟨a0, a1, a2, a3⟩ := HK.out W4 B4
          go_wp2_with fail
          refine (HD.out W4 B4).mono ?_
          rintro e W5 ⟨rfl, hb5⟩
          have B5 := btt B4 hb5
          clear a0 a1 a2 a3
          obtain ⟨a0, a1, a2, a3⟩ := HK.out W5 B5
          go_wp2_with fail
          refine (awakeK W5 (bt hb1 B5 hb1.size) (Nat.le_trans hb1.size B5.size)).mono ?_
          rintro e W6 ⟨rfl, hb6⟩
          go_wp2
          go_ret
          exact ⟨rfl, hb6⟩
        case pos =>
          subst hF0
          by_cases hmn : m = n
          case neg =>
            have hmn1 : (m != n) = true := by simpa using hmn
            go_enter Tryz.func9, Tryz.ntmps9
            go_wp2_with fail
            rw [← hW1]
            obtain ⟨a0, a1, a2, a3⟩ := HK.out W1 (Below.refl _ _)
            have B1 : Below W1.heap.size W1 W1 := Below.refl _ _
            refine (HF.out W1 B1).mono ?_
            rintro e W2 ⟨rfl, hb2⟩
            have B2 := btt B1 hb2
            clear a0 a1 a2 a3
            obtain ⟨a0, a1, a2, a3⟩ := HK.out W2 B2
            go_wp2_with fail
            refine (HG.out W2 B2).mono ?_
            rintro e W3 ⟨rfl, hb3⟩
            have B3 := btt B2 hb3
            clear a0 a1 a2 a3
            obtain ⟨a0, a1, a2, a3⟩ := HK.out W3 B3
            go_wp2_with fail
            refine (HC.out W3 B3).mono ?_
            rintro e W4 ⟨rfl, hb4⟩
            have B4 := btt B3 hb4
            clear a0 a1 a2 a3
            obtain ⟨a0, a1, a2, a3⟩ := HK.out W4 B4
            go_wp2_with fail
            refine (HD.out W4 B4).mono ?_
            rintro e W5 ⟨rfl, hb5⟩
            have B5 := btt B4 hb5
            clear a0 a1 a2 a3
            obtain ⟨a0, a1, a2, a3⟩ := HK.out W5 B5
            go_wp2_with fail
            refine (awakeK W5 (bt hb1 B5 hb1.size) (Nat.le_trans hb1.size B5.size)).mono ?_
            rintro e W6 ⟨rfl, hb6⟩
            go_wp2
            go_ret
            exact ⟨rfl, hb6⟩
          case pos =>
            subst hmn
            obtain ⟨x1, x2⟩ := hfx.out rfl
            obtain ⟨y1, y2⟩ := hfy.out rfl
            have hW : TwoA m xs ys := ⟨⟨hx8, hE.out⟩, ⟨hy8, hF.out⟩, by omega, by omega⟩
            have hE2 : eqErr m m xs ys = 0 := by rw [eqErr, hE.out, hF.out]; simp
            have hE3 : eqErr m m ys xs = 0 := by rw [eqErr, hE.out, hF.out]; simp
            have hR2 : eqRes m m xs ys = decide (dist (unS xs ys) 0 xs.length = none) := by rw [eqRes, hE2, decide_eq_true rfl, Bool.true_and, decide_eq_decide.2 (decides hW)]
            have hR3 : eqRes m m ys xs = decide (dist (unS xs ys) 0 xs.length = none) := by rw [eqRes, hE3, decide_eq_true rfl, Bool.true_and, decide_eq_decide.2 (eq_comm.trans (decides hW))]
            have HE := Lib.hid (fun W (hb : Below W1.heap.size W1 W) => equalA (HX.out W hb) (HY.out W hb) (by omega) (by omega) (by omega) (by omega))
            have HE' := Lib.hid (fun W (hb : Below W1.heap.size W1 W) => equalA (HY.out W hb) (HX.out W hb) (by omega) (by omega) (by omega) (by omega))
            simp only [hE2, hR2] at HE
            simp only [hE3, hR3] at HE'
            have HU := Lib.hid (fun W (hb : Below W1.heap.size W1 W) => unionCall (HX.out W hb) (HY.out W hb) hW rfl)
            have hUl : (unS xs ys).length ≤ 90 := by rw [unS_len]; omega
            have hUm : movesN (unS xs ys) ≤ 90 := by rw [unS_moves]; omega
            have hx0 := hW.l.pos
            have hy0 := hW.r.pos
            have HQ := Lib.hid (fun W uv (hu : AdvV W uv m (unS xs ys)) => disOwn (a := 0) (b := xs.length) hu (unS_chk hW) hUl hUm (by rw [unS_len]; omega) (by rw [unS_len]; omega))
            have HAx := Lib.hid (fun W (hb : Below W1.heap.size W1 W) wv (ps : List (List Int)) (hP : KS 7 W wv ps) (hw : ∀ r ∈ ps, WfR r) => allowsCall (HX.out W hb) hE.out hW.l.cls hP hw)
            have HAy := Lib.hid (fun W (hb : Below W1.heap.size W1 W) wv (ps : List (List Int)) (hP : KS 7 W wv ps) (hw : ∀ r ∈ ps, WfR r) => allowsCall (HY.out W hb) hF.out hW.r.cls hP hw)
            have hwd : Hid (∀ wd, dist (unS xs ys) 0 xs.length = some wd → 0 < wd.length ∧ wd.length ≤ xs.length + ys.length ∧ (∀ r ∈ wd, WfR r) ∧ (decide (0 ≤ afterI xs wd 0) != decide (0 ≤ afterI ys wd 0)) = true ∧ decide (0 ≤ afterI xs (wd.take (wd.length - 1)) 0) = true ∧ decide (0 ≤ afterI ys (wd.take (wd.length - 1)) 0) = true) := fun wd h => by
              obtain ⟨h1, h2, h3, h4, h5⟩ := decides_word hW h
              refine ⟨h1, h2, ?_, ?_, decide_eq_true (alw_after.1 h4), decide_eq_true (alw_after.1 h5)⟩
              · by_cases hax : alw xs wd 0
                · exact alw_wf hW.l.cls hx0 hax
                · by_cases hay : alw ys wd 0
                  · exact alw_wf hW.r.cls hy0 hay
                  · exact absurd ⟨fun h => absurd h hax, fun h => absurd h hay⟩ h3
              · rw [alw_after, alw_after] at h3
                rw [bne_iff_ne]
                intro he
                exact h3 (decide_eq_decide.1 he)
            obtain ⟨R, hR⟩ : ∃ R, dist (unS xs ys) 0 xs.length = R := ⟨_, rfl⟩
            simp only [hR] at HE HE' HQ hwd
            replace hx0 := Lib.hid hx0
            replace hy0 := Lib.hid hy0
            replace hW := Lib.hid hW
            replace hR := Lib.hid hR
            clear hE2 hE3 hR2 hR3 hx8 hy8
            cases R with
            | none =>
              simp only [decide_true] at HE HE'
              have hgt : decide (((xs.length : Int) + (ys.length : Int)) < 0) = false := decide_eq_false (by omega)
              have hwa : IntKind.i64.wrap ((xs.length : Int) + (ys.length : Int)) = (xs.length : Int) + (ys.length : Int) := IntWalk.i64_in _ (by omega)
              go_enter Tryz.func9, Tryz.ntmps9
              go_wp2_with fail
              rw [← hW1]
              obtain ⟨a0, a1, a2, a3⟩ := HK.out W1 (Below.refl _ _)
              have B1 : Below W1.heap.size W1 W1 := Below.refl _ _
              refine (HF.out W1 B1).mono ?_
              rintro e W2 ⟨rfl, hb2⟩
              have B2 := btt B1 hb2
              clear a0 a1 a2 a3
              obtain ⟨a0, a1, a2, a3⟩ := HK.out W2 B2
              go_wp2_with fail
              refine (HG.out W2 B2).mono ?_
              rintro e W3 ⟨rfl, hb3⟩
              have B3 := btt B2 hb3
              clear a0 a1 a2 a3
              obtain ⟨a0, a1, a2, a3⟩ := HK.out W3 B3
              go_wp2_with fail
              refine (HC.out W3 B3).mono ?_
              rintro e W4 ⟨rfl, hb4⟩
              have B4 := btt B3 hb4
              clear a0 a1 a2 a3
              obtain ⟨a0, a1, a2, a3⟩ := HK.out W4 B4
              go_wp2_with fail
              refine (HD.out W4 B4).mono ?_
              rintro e W5 ⟨rfl, hb5⟩
              have B5 := btt B4 hb5
              clear a0 a1 a2 a3
              obtain ⟨a0, a1, a2, a3⟩ := HK.out W5 B5
              go_wp2_with fail
              refine (HE.out W5 B5).mono ?_
              rintro e W6 ⟨rfl, hb6⟩
              have B6 := btt B5 hb6
              clear a0 a1 a2 a3
              obtain ⟨a0, a1, a2, a3⟩ := HK.out W6 B6
              go_wp2_with fail
              refine (HE'.out W6 B6).mono ?_
              rintro e W7 ⟨rfl, hb7⟩
              have B7 := btt B6 hb7
              clear a0 a1 a2 a3
              obtain ⟨a0, a1, a2, a3⟩ := HK.out W7 B7
              go_wp2_with fail
              have hbd : Below W1.heap.size W1 W7.drew := B7.drew
              have HU1 := Lib.hid (HU.out W7.drew hbd)
              go_region_held3 (fun w' => w'.cell? ⟨w.heap.size, 0, none⟩ = some (.int .i64 m) ∧ w'.cell? ⟨w.heap.size, 1, none⟩ = some (.slice xa xs.length xc) ∧ w'.cell? ⟨w.heap.size + 1, 0, none⟩ = some (.int .i64 m) ∧ w'.cell? ⟨w.heap.size + 1, 1, none⟩ = some (.slice ya ys.length yc))
                (first
                  | go_keep
                  | (exact HK.out _ hD9)
                  | (exact HK.out _ hD8))
                (first
                  | (go_at_call 36; (with_reducible refine HU1.out.mono ?_); rintro e W8 ⟨u8, rfl, hu8, hb8⟩; obtain ⟨ua8, uc8, hus8⟩ := advShape' hu8; subst hus8; have hD8 := btt hbd hb8)
                  | (go_at_call 23; refine (HQ.out W8 _ hu8).mono ?_; rintro e W9 ⟨u9, rfl, hu9, hb9⟩; obtain ⟨ua9, c9, hus9⟩ := hu9.shape; subst hus9; have hD9 := btt hD8 hb9))
              clear a0 a1 a2 a3
              obtain ⟨a0, a1, a2, a3⟩ := HK.out W9 hD9
              have B9 := hD9
              go_wp2_with fail
              refine (awakeK W9 (bt hb1 B9 hb1.size) (Nat.le_trans hb1.size B9.size)).mono ?_
              rintro e W10 ⟨rfl, hb10⟩
              go_wp2
              go_ret
              exact ⟨rfl, hb10⟩
            | some wd =>
              have hd0 : decide (some wd = (none : Option (List (List Int)))) = false := by simp
              simp only [hd0, Option.getD_some] at HE HE' HQ
              obtain ⟨g1, g2, g3, g4, g5, g6⟩ := hwd.out wd rfl
              obtain ⟨L, hL⟩ : ∃ L, wd.length = L + 1 := ⟨wd.length - 1, by omega⟩
              simp only [hL, Nat.add_sub_cancel] at HQ g2 g5 g6
              have hgt : decide (((xs.length : Int) + (ys.length : Int)) < ((L : Int) + 1)) = false := decide_eq_false (by omega)
              have hwa : IntKind.i64.wrap ((xs.length : Int) + (ys.length : Int)) = (xs.length : Int) + (ys.length : Int) := IntWalk.i64_in _ (by omega)
              replace g3 := Lib.hid g3
              replace hL := Lib.hid hL
              go_enter Tryz.func9, Tryz.ntmps9
              go_wp2_with fail
              rw [← hW1]
              obtain ⟨a0, a1, a2, a3⟩ := HK.out W1 (Below.refl _ _)
              have B1 : Below W1.heap.size W1 W1 := Below.refl _ _
              refine (HF.out W1 B1).mono ?_
              rintro e W2 ⟨rfl, hb2⟩
              have B2 := btt B1 hb2
              clear a0 a1 a2 a3
              obtain ⟨a0, a1, a2, a3⟩ := HK.out W2 B2
              go_wp2_with fail
              refine (HG.out W2 B2).mono ?_
              rintro e W3 ⟨rfl, hb3⟩
              have B3 := btt B2 hb3
              clear a0 a1 a2 a3
              obtain ⟨a0, a1, a2, a3⟩ := HK.out W3 B3
              go_wp2_with fail
              refine (HC.out W3 B3).mono ?_
              rintro e W4 ⟨rfl, hb4⟩
              have B4 := btt B3 hb4
              clear a0 a1 a2 a3
              obtain ⟨a0, a1, a2, a3⟩ := HK.out W4 B4
              go_wp2_with fail
              refine (HD.out W4 B4).mono ?_
              rintro e W5 ⟨rfl, hb5⟩
              have B5 := btt B4 hb5
              clear a0 a1 a2 a3
              obtain ⟨a0, a1, a2, a3⟩ := HK.out W5 B5
              go_wp2_with fail
              refine (HE.out W5 B5).mono ?_
              rintro e W6 ⟨rfl, hb6⟩
              have B6 := btt B5 hb6
              clear a0 a1 a2 a3
              obtain ⟨a0, a1, a2, a3⟩ := HK.out W6 B6
              go_wp2_with fail
              refine (HE'.out W6 B6).mono ?_
              rintro e W7 ⟨rfl, hb7⟩
              have B7 := btt B6 hb7
              clear a0 a1 a2 a3
              obtain ⟨a0, a1, a2, a3⟩ := HK.out W7 B7
              go_wp2_with fail
              have hbd : Below W1.heap.size W1 W7.drew := B7.drew
              have HU1 := Lib.hid (HU.out W7.drew hbd)
              go_region_held3 (fun w' => w'.cell? ⟨w.heap.size, 0, none⟩ = some (.int .i64 m) ∧ w'.cell? ⟨w.heap.size, 1, none⟩ = some (.slice xa xs.length xc) ∧ w'.cell? ⟨w.heap.size + 1, 0, none⟩ = some (.int .i64 m) ∧ w'.cell? ⟨w.heap.size + 1, 1, none⟩ = some (.slice ya ys.length yc))
                (first
                  | go_keep
                  | (exact HK.out _ hD9)
                  | (exact HK.out _ hD8))
                (first
                  | (go_at_call 36; (with_reducible refine HU1.out.mono ?_); rintro e W8 ⟨u8, rfl, hu8, hb8⟩; obtain ⟨ua8, uc8, hus8⟩ := advShape' hu8; subst hus8; have hD8 := btt hbd hb8)
                  | (go_at_call 23; refine (HQ.out W8 _ hu8).mono ?_; rintro e W9 ⟨u9, rfl, hu9, hb9⟩; obtain ⟨ua9, c9, hus9⟩ := hu9.shape; subst hus9; have hD9 := btt hD8 hb9))
              clear a0 a1 a2 a3
              obtain ⟨a0, a1, a2, a3⟩ := HK.out W9 hD9
              have B9 := hD9
              have hP9 := hu9.ks (k := 7) (by omega)
              obtain ⟨g9, hg9, hcap⟩ := hu9.capOf (Nat.succ_pos L)
              subst hg9
              have hT9 := hP9.take (l := L) (by rw [hL.out]; exact Nat.le_succ L)
              have hwT : ∀ r ∈ wd.take L, WfR r := fun r hr => g3.out r (List.mem_of_mem_take hr)
              have H1 := HAx.out W9 hD9 _ wd hP9 g3.out
              have H2 := Lib.hid (fun W (hb : Below W9.heap.size W9 W) => HAy.out W (btt hD9 hb) _ wd (hP9.keep hb) g3.out)
              have H3 := Lib.hid (fun W (hb : Below W9.heap.size W9 W) => HAx.out W (btt hD9 hb) _ (wd.take L) (hT9.keep hb) hwT)
              have H4 := Lib.hid (fun W (hb : Below W9.heap.size W9 W) => HAy.out W (btt hD9 hb) _ (wd.take L) (hT9.keep hb) hwT)
              obtain ⟨A, hA⟩ : ∃ A, decide (0 ≤ afterI xs wd 0) = A := ⟨_, rfl⟩
              obtain ⟨B, hB⟩ : ∃ B, decide (0 ≤ afterI ys wd 0) = B := ⟨_, rfl⟩
              rw [hA] at H1 g4
              simp only [hB] at H2 g4
              simp only [g5] at H3
              simp only [g6] at H4
              have hwl : IntKind.i64.wrap ((L : Int) + 1 - 1) = (L : Int) := by rw [Int.add_sub_cancel]; exact IntWalk.i64_in _ (by omega)
              have g4a : ¬ A = B := fun h => by rw [h] at g4; simp at g4
              have g4b : (A == B) = false := beq_eq_false_iff_ne.2 g4a
              have hwl2 : IntKind.i64.wrap (L : Int) = (L : Int) := IntWalk.i64_in _ (by omega)
              have hc0 : ¬ c9 = 0 := by omega
              have hLc : (L : Int) ≤ (c9 : Int) := by omega
              have hL0 : (0 : Int) ≤ (L : Int) := Int.natCast_nonneg _
              have hne : ((L : Int) + 1 == 0) = false := beq_eq_false_iff_ne.2 (by omega)
              clear hu9 hP9 hT9 hwT g5 g6 hA hB g1 hgt hwa
              replace H1 := Lib.hid H1
              go_wp2_with fail
              refine H1.out.mono ?_
              rintro e W10 ⟨rfl, hb10⟩
              have h910 := (Below.refl W9.heap.size W9).trans hb10
              have B10 := btt B9 hb10
              clear a0 a1 a2 a3
              obtain ⟨a0, a1, a2, a3⟩ := HK.out W10 B10
              go_wp2_with fail
              refine (H2.out W10 h910).mono ?_
              rintro e W11 ⟨rfl, hb11⟩
              have h911 := btt h910 hb11
              have B11 := btt B10 hb11
              clear a0 a1 a2 a3
              obtain ⟨a0, a1, a2, a3⟩ := HK.out W11 B11
              have H3a := Lib.hid (H3.out W11.drew h911.drew)
              go_wp2_with fail
              go_region_held3 (fun w' => w'.cell? ⟨w.heap.size, 0, none⟩ = some (.int .i64 m) ∧ w'.cell? ⟨w.heap.size, 1, none⟩ = some (.slice xa xs.length xc))
                (first
                  | go_keep
                  | (exact ⟨(HK.out _ B12).1, (HK.out _ B12).2.1⟩))
                (first
                  | (go_at_call 37; refine H3a.out.mono ?_; rintro e W12 ⟨rfl, hb12⟩; have h912 : Below W9.heap.size W9 W12 := (btt h911.drew hb12); have B12 : Below W1.heap.size W1 W12 := btt B11.drew hb12))
              clear a0 a1 a2 a3
              obtain ⟨a0, a1, a2, a3⟩ := HK.out W12 B12
              have H4a := Lib.hid (H4.out W12.drew h912.drew)
              go_wp2_with fail
              go_region_held3 (fun w' => w'.cell? ⟨w.heap.size + 1, 0, none⟩ = some (.int .i64 m) ∧ w'.cell? ⟨w.heap.size + 1, 1, none⟩ = some (.slice ya ys.length yc))
                (first
                  | go_keep
                  | (exact ⟨(HK.out _ B13).2.2.1, (HK.out _ B13).2.2.2⟩))
                (first
                  | (go_at_call 37; refine H4a.out.mono ?_; rintro e W13 ⟨rfl, hb13⟩; have B13 : Below W1.heap.size W1 W13 := btt B12.drew hb13))
              go_wp2_with fail
              refine (awakeK W13 (bt hb1 B13 hb1.size) (Nat.le_trans hb1.size B13.size)).mono ?_
              rintro e W14 ⟨rfl, hb14⟩
              go_wp2
              go_ret
              exact ⟨rfl, hb14⟩
end Go.Proofs.YtfihpofdoffclaaGreatDoor
