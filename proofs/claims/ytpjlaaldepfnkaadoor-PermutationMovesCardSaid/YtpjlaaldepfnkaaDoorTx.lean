/- The program's text. -/
import Derived.Test.YtpjlaaldepfnkaaDoorBz
import Derived.Test.YtpjlaaldepfnkaaDoorIc
namespace Go.Proofs.YtpjlaaldepfnkaaDoor
open Go.RowKit
attribute [local go_sem] Oper.semAt_some

def pcT (j : Nat) (x : Int) : List UInt8 := (sepB ((j : Int) == 0)).data.toList ++ (digI x).data.toList
def inT : Nat → List Int → List UInt8
  | _, [] => []
  | j, x :: xs => pcT j x ++ inT (j + 1) xs
def cyT (c : List Int) : List UInt8 := if c.length = 1 then [] else inT 0 c ++ [41]
def txT (L : List (List Int)) : List UInt8 := L.flatMap cyT
theorem txT_snoc (L : List (List Int)) (c : List Int) : txT (L ++ [c]) = txT L ++ cyT c := by simp [txT]
theorem inT_snoc (x : Int) : ∀ (xs : List Int) (j : Nat), inT j (xs ++ [x]) = inT j xs ++ pcT (j + xs.length) x
  | [], j => by simp [inT]
  | y :: ys, j => by
    rw [List.cons_append, inT, inT, inT_snoc x ys (j + 1), List.append_assoc, List.length_cons, show j + 1 + ys.length = j + (ys.length + 1) by omega]
theorem inT_take (c : List Int) {k : Nat} (h : k < c.length) : inT 0 (c.take (k + 1)) = inT 0 (c.take k) ++ pcT k (c.getD k 0) := by
  rw [List.take_add_one, List.getElem?_eq_getElem h]
  simp only [Option.toList_some]
  rw [inT_snoc, List.length_take, Nat.zero_add, Nat.min_eq_left (by omega), List.getD_eq_getElem?_getD, List.getElem?_eq_getElem h]
  rfl
theorem sepB_size (x : Bool) : (sepB x).size = 1 := by cases x <;> rfl
theorem digI_size (p : Int) : (digI p).size ≤ 1 := by
  unfold digI; rw [ByteArray.size_extract]; omega
theorem pcT_len (j : Nat) (x : Int) : (pcT j x).length ≤ 2 := by
  have h1 := sepB_size ((j : Int) == 0)
  have h2 := digI_size x
  unfold pcT
  rw [List.length_append, Array.length_toList, Array.length_toList]
  have e1 : (sepB ((j : Int) == 0)).data.size = (sepB ((j : Int) == 0)).size := rfl
  have e2 : (digI x).data.size = (digI x).size := rfl
  omega

theorem inT_len : ∀ (xs : List Int) (j : Nat), (inT j xs).length ≤ 2 * xs.length
  | [], j => by simp [inT]
  | x :: xs, j => by
    have h1 := inT_len xs (j + 1)
    have h2 := pcT_len j x
    rw [inT, List.length_append, List.length_cons]
    omega

/-- The builder's blocks, and what it holds. -/
def Bx (b : Nat) (D : Nat → Prop) (W : World) (l : List UInt8) : Prop := ∃ p v, BA W b p v (Lib.byteCells l) ∧ PP b p ∧ ∀ k, D k ↔ (k = b ∨ v.ownBlock = some k)
theorem Bx.stable {α : Type} (b : Nat) (f : List α → List UInt8) : Stable (fun pre D W => Bx b D W (f pre)) := by
  rintro pre D W W' ⟨p, v, ⟨h1, h2, h3⟩, hp, hD⟩ hs hk
  refine ⟨p, v, ⟨(hk b ((hD b).2 (.inl rfl))).trans h1, ?_, h3⟩, hp, hD⟩
  refine ⟨h2.1, ?_⟩
  rcases h2.2 with h' | ⟨g, cap, cur, q1, q2, q3, q4⟩
  · exact .inl h'
  · exact .inr ⟨g, cap, cur, q1, q2, (hk g ((hD g).2 (.inr (by rw [q1]; rfl)))).trans q3, q4⟩
theorem Bx.bd {b : Nat} {D : Nat → Prop} {W : World} {l : List UInt8} (h : Bx b D W l) : Bd D W := by
  obtain ⟨p, v, h1, hp, hD⟩ := h
  intro k hk
  rcases (hD k).1 hk with rfl | hk
  · exact h1.lt
  · exact (h1.2.1.lt k hk).2
/-- One step of writing. -/
theorem Bx.step {b : Nat} {D : Nat → Prop} {W W' : World} {v v' : Value} (hD : ∀ k, D k ↔ (k = b ∨ v.ownBlock = some k)) (hO : Only (fun k => k = b ∨ v.ownBlock = some k) W W') (hn : NewBlk W v v') :
    Only D W W' ∧ Gr D W (fun k => k = b ∨ v'.ownBlock = some k) := by
  refine ⟨hO.mono fun k h => (hD k).2 h, fun k hk => ?_⟩
  rcases hk with hk | hk
  · exact .inl ((hD k).2 (.inl hk))
  · rcases hn with hn | hn
    · exact .inl ((hD k).2 (.inr (hn ▸ hk)))
    · exact .inr (hn k hk)
theorem Bx.apart {b : Nat} {D : Nat → Prop} {W : World} {l : List UInt8} (h : Bx b D W l) {u : Value} {n : Nat} {xs : List Int} (ho : OI W 0 u n xs) : ∀ g, u.ownBlock = some g → ¬ D g := by
  obtain ⟨p, v, h1, hp, hD⟩ := h
  intro g hg hd
  rcases ho.2 with ⟨rfl, _⟩ | ⟨g', cap, cur, rfl, _, q3, _⟩
  · cases hg
  · simp only [Value.ownBlock, Option.some.injEq] at hg
    subst hg
    rcases (hD _).1 hd with rfl | hd
    · rw [h1.1] at q3; cases q3
    · rcases h1.2.1.2 with ⟨rfl, _⟩ | ⟨g2, cap2, cur2, rfl, _, r3, _⟩
      · cases hd
      · simp only [Value.ownBlock, Option.some.injEq] at hd
        subst hd
        rw [r3] at q3; cases q3
def TxtL (L : List (List Int)) : Prop := ∀ pre x r, pre ++ x :: r = L → x.length ≤ 5 ∧ 1 ≤ x.length ∧ (∀ k, k < x.length → 0 ≤ x.getD k 0 ∧ x.getD k 0 < 10) ∧ (txT pre).length ≤ 1000
def textP (L : List (List Int)) : ByteArray := if txT L = [] then { data := #[40, 41] } else ⟨(txT L).toArray⟩

set_option maxRecDepth 100000 in
set_option maxHeartbeats 1600000 in
theorem text0 {w : World} {v : Value} {a : List Int} (h : Ints w v a) (hz : chk a = 0) {L : List (List Int)} (hL : cyOut a a.length 0 (List.replicate a.length false) = some L) (hO : TxtL L) (hlen : (txT L).length ≤ 1000) :
    Calls Tryd.prog 64 #[v] w fun e w' => e = .returned (.string (textP L)) ∧ Below w.heap.size w w' := by
  obtain ⟨h1, h5, hG, _⟩ := chk_good hz
  clear hz
  obtain ⟨aa, ac, ab, off, rfl, ha, hc, hl⟩ := h
  refine callsIn_wide.1 (callsIn_of_wp_marks (n := 0) Tryd.func64 rfl trivial ?_)
  simp only [Tryd.ntmps64, List.size_toArray, List.length_cons, List.length_nil, Nat.reduceAdd, Nat.reduceSub, Array.replicate_succ, Array.replicate_zero, List.push_toArray, List.append_toArray, List.nil_append, List.cons_append]
  refine wpIn_wide.2 ?_
  go_wp2_with (first | (go_at_call 49; refine (cyclesCall _ _ _ _).mono ?_; rintro e w2 ⟨rfl, rfl⟩))
  have hBn : ((w.alloc (.cells #[.pointer none, .slice none 0 0] 109)).alloc (.cells #[.slice aa a.length ac] 22)).heap[w.heap.size]? = some (.cells #[.pointer none, .slice none 0 0] 109 (0, 0)) := (Below.heap_alloc _ _ _ (by simp)).trans (World.alloc_heap_new w _)
  have hBx : ((w.alloc (.cells #[.pointer none, .slice none 0 0] 109)).alloc (.cells #[.slice aa a.length ac] 22)).cell? ⟨w.heap.size + 1, 0, none⟩ = some (.slice aa a.length ac) := by
    have := World.alloc_heap_new (w.alloc (.cells #[.pointer none, .slice none 0 0] 109)) (.cells #[.slice aa a.length ac] 22)
    rw [World.size_alloc] at this
    exact cell_of_one this
  have hbW : Below w.heap.size w ((w.alloc (.cells #[.pointer none, .slice none 0 0] 109)).alloc (.cells #[.slice aa a.length ac] 22)) := ((Below.refl _ w).alloc (Nat.le_refl _) _).alloc (by simp) _
  have habl : ab < w.heap.size := World.block_lt_of_cell? w _ (hc 0 h1)
  obtain ⟨wL, hwL⟩ : ∃ wL, wL = (w.alloc (.cells #[.pointer none, .slice none 0 0] 109)).alloc (.cells #[.slice aa a.length ac] 22) := ⟨_, rfl⟩
  have hsL : wL.heap.size = w.heap.size + 2 := by rw [hwL]; simp
  rw [← hwL] at hBn hBx hbW ⊢
  obtain ⟨Bn, hBne⟩ : ∃ Bn, Bn = w.heap.size := ⟨_, rfl⟩
  rw [← hBne] at hBn hBx hsL hbW habl ⊢
  clear hwL
  have hcL := hc.keep (hBne ▸ hbW)
  replace hBne := Lib.hid hBne
  have hB0 : Bx Bn (fun k => k = Bn) wL [] := ⟨_, _, ⟨hBn, World.ownsRow_nil _ _ _ _, by simp [Value.ownBlock]⟩, .inl rfl, fun k => ⟨.inl, fun h => by rcases h with h | h; exact h; cases h⟩⟩
  refine wpIn_wide.1 (wpIn_rf (gf := 71) (lb := #[.pointer (some ⟨Bn + 1, 0, none⟩)]) rfl (enters_of Tryd.func71 (by kernel_rfl) rfl) (cycSeq hBx ha hcL hG h5 (by omega) hL) (Below.refl _ _) (fun _ => rfl) cycR_put
    (fun pre D W => Bx Bn D W (txT (pre.map Prod.snd))) (fun _ _ _ _ => False) (Bx.stable Bn _) (fun _ _ _ _ _ h _ _ => h) (fun k => k = Bn) (fun k hk => by rw [hk]; omega) (fun k hk => by omega) (fun k hk => by omega) hB0
    (fun x => { tmps := #[.slice aa a.length ac, undef, .string { data := #[] }, .pointer (some ⟨Bn, 0, none⟩), x.1, undef, undef, .slice aa a.length ac, .func (.func 71) #[] #[.pointer (some ⟨Bn + 1, 0, none⟩)], x.1, undef, undef, undef, undef, undef, undef, undef, undef, undef, undef, undef, undef, undef, undef, undef, undef, undef, undef, undef, undef, undef, undef, undef, undef], defers := [] }) ?assign ?body ?done ?stop)
  case assign =>
    intro l x W K hK
    gi_wp2
    exact hK
  case body =>
    rintro l pre ⟨xv, xl⟩ D W hbx hBd hOn hGr ⟨hx, r, hr⟩ _
    obtain ⟨o1, o4, o2, o3⟩ := hO _ _ _ hr
    have hsn := Lib.hid (txT_snoc (pre.map Prod.snd) xl)
    have hap := Lib.hid (hbx.apart hx)
    simp only at hx
    obtain ⟨ca, cc, rfl⟩ := hx.shape
    obtain ⟨t0, ht0⟩ : ∃ t0, txT (pre.map Prod.snd) = t0 := ⟨_, rfl⟩
    have o1 : xl.length ≤ 5 := o1
    have o4 : 1 ≤ xl.length := o4
    have o2 : ∀ k, k < xl.length → 0 ≤ xl.getD k 0 ∧ xl.getD k 0 < 10 := o2
    rw [ht0] at hbx hsn o3
    clear ht0 hr hO hOn hGr hBn hBx hcL hG hc ha hL hB0 hlen
    replace hbx := Lib.hid hbx
    replace o2 := Lib.hid o2
    replace hBd := Lib.hid hBd
    by_cases hone : xl.length = 1
    · have e1 : ((xl.length : Int) == 1) = true := by rw [hone]; rfl
      gi_wp2
      refine ⟨D, Only.refl _ _, Gr.refl _ _, hBd.out, ?_⟩
      have e2 : List.map Prod.snd (pre ++ [((Value.slice ca 1 cc, xl) : Cyc)]) = List.map Prod.snd pre ++ [xl] := by rw [List.map_append]; rfl
      show Bx Bn D W (txT (List.map Prod.snd (pre ++ [((Value.slice ca 1 cc, xl) : Cyc)])))
      rw [e2]
      rw [hsn.out, cyT, if_pos hone, List.append_nil]
      exact hbx.out
    · have e1 : ((xl.length : Int) == 1) = false := by simpa using (by omega : ¬ (xl.length : Int) = 1)
      gi_wp2
      gi_loopw [15] (fun iv wr => ∃ (k : Nat) (D1 : Nat → Prop), iv = .int .i64 k ∧ k ≤ xl.length ∧ Only D W wr ∧ Gr D W D1 ∧ Bx Bn D1 wr (t0 ++ inT 0 (xl.take k))) (fun iv _ => xl.length - (intOf iv).toNat)
      case atStart => exact ⟨0, D, rfl, Nat.zero_le _, Only.refl _ _, Gr.refl _ _, by simpa [inT] using hbx.out⟩
      case round =>
        obtain ⟨k, D1, rfl, hk, hOnr, hGrr, hbr⟩ := hrel
        by_cases hlt : k < xl.length
        · obtain ⟨n1, n2⟩ := o2.out k hlt
          have hxr : OI wr 0 _ _ _ := hOnr.row hx hap.out
          obtain ⟨g, rfl⟩ : ∃ g, ca = some ⟨g, 0, none⟩ := by
            rcases hx.2 with ⟨h', h2⟩ | ⟨g, cap, cur, h', _⟩
            · omega
            · injection h' with h'; exact ⟨g, h'⟩
          have hcx := hxr.cell hlt
          obtain ⟨q, hq⟩ : ∃ q, xl.getD k 0 = q := ⟨_, rfl⟩
          rw [hq] at hcx n1 n2
          obtain ⟨W1, W2, hm1, hm2, hm3, hbm⟩ := mapLit wr
          have hmm := @run_makeMap Tryd.prog
          clear hxr
          replace hq := Lib.hid hq
          obtain ⟨pb, vb, hba, hpp, hDb⟩ := hbr
          have hsz : (t0 ++ inT 0 (xl.take k)).length ≤ 2000 := by
            have := inT_len (xl.take k) 0
            rw [List.length_take] at this
            rw [List.length_append]; omega
          have hk1 : Lib.byteCells (t0 ++ inT 0 (xl.take (k + 1))) = Lib.byteCells (t0 ++ inT 0 (xl.take k)) ++ Lib.strCells (sepB ((k : Int) == 0)) ++ Lib.strCells (digI q) := by
            rw [inT_take xl hlt, hq.out, Lib.strCells_eq, Lib.strCells_eq, ← Lib.byteCells_append, ← Lib.byteCells_append, pcT]
            simp
          replace hk1 := Lib.hid hk1
          obtain ⟨bs, hbs⟩ : ∃ bs, Lib.byteCells (t0 ++ inT 0 (xl.take k)) = bs := ⟨_, rfl⟩
          have hbl : bs.length ≤ 2000 := by rw [← hbs, Lib.byteCells_length]; exact hsz
          rw [hbs] at hba hk1
          have hba2 : BA W2 Bn pb vb bs := ⟨(hbm.block _ hba.lt).trans hba.1, (Only.of_below (D := fun _ => False) hbm).row hba.2.1 (fun _ _ h => h), hba.2.2⟩
          have hs1 : (sepB ((k : Int) == 0)).size = 1 := sepB_size _
          have hs2 := digI_size q
          have hws := fun s h => bWriteString hba2 hpp s h
          replace hws := Lib.hid hws
          clear hbs hsz
          gi_wp2
          refine ⟨trivial, rfl, ?_⟩
          gi_at_call 78
          refine (CallsIn.inRound l (callsIn_wide.2 (hws.out _ (by omega)))).mono ?_
          rintro e W3 ⟨rfl, v3, hba3, ho3, hn3⟩
          gi_wp2
          refine ⟨trivial, rfl, ?_⟩
          gi_at_call 79
          refine (CallsIn.inRound l (callsIn_wide.2 (itoaCall q _ n1 n2))).mono ?_
          rintro e W4 ⟨rfl, hq4⟩
          have hba4 : BA W4 Bn (selfP Bn) v3 _ := ⟨(hq4.below.block _ hba3.lt).trans hba3.1, (Only.of_below (D := fun _ => False) hq4.below).row hba3.2.1 (fun _ _ h => h), hba3.2.2⟩
          have hl3 : (bs ++ Lib.strCells (sepB ((k : Int) == 0))).length ≤ 2001 := by rw [List.length_append, Lib.strCells_length, hs1]; omega
          gi_wp2
          refine ⟨trivial, rfl, ?_⟩
          gi_at_call 78
          refine (CallsIn.inRound l (callsIn_wide.2 (bWriteString hba4 (.inr rfl) _ (by omega)))).mono ?_
          rintro e W5 ⟨rfl, v5, hba5, ho5, hn5⟩
          rw [← hk1.out] at hba5
          gi_wp2
          go_roundw
          case measure => simp only [intOf]; omega
          case rel =>
            obtain ⟨a1, a2⟩ := Bx.step hDb ((Only.of_below hbm).trans ho3 (Gr.refl _ _)) (by
              rcases hn3 with h | h
              · exact .inl h
              · exact .inr fun i hi => Nat.le_trans hbm.size (h i hi))
            obtain ⟨a3, a4⟩ := Bx.step (W := W3) (fun i => Iff.rfl) ((Only.of_below hq4.below).trans ho5 (Gr.refl _ _)) (by
              rcases hn5 with h | h
              · exact .inl h
              · exact .inr fun i hi => Nat.le_trans hq4.below.size (h i hi))
            have a5 := Gr.trans a2 a4 a1.size
            have a6 := a1.trans a3 a2
            exact ⟨k + 1, _, by norm_cast, by omega, hOnr.trans a6 hGrr, hGrr.trans a5 hOnr.size, _, _, hba5, .inr rfl, fun i => Iff.rfl⟩
        · obtain rfl : k = xl.length := by omega
          obtain ⟨pb, vb, hba, hpp, hDb⟩ := hbr
          rw [List.take_length] at hba
          have hk1 : Lib.byteCells (t0 ++ cyT xl) = Lib.byteCells (t0 ++ inT 0 xl) ++ [.int .u8 41] := by
            rw [cyT, if_neg hone, ← List.append_assoc, Lib.byteCells_append _ [41]]
            rfl
          replace hk1 := Lib.hid hk1
          have hbl : (Lib.byteCells (t0 ++ inT 0 xl)).length ≤ 2000 := by
            have := inT_len xl 0
            rw [Lib.byteCells_length, List.length_append]; omega
          obtain ⟨bs, hbs⟩ : ∃ bs, Lib.byteCells (t0 ++ inT 0 xl) = bs := ⟨_, rfl⟩
          rw [hbs] at hba hk1 hbl
          clear hbs hx hap
          gi_wp2
          refine ⟨trivial, rfl, ?_⟩
          gi_at_call 80
          refine (CallsIn.inRound l (callsIn_wide.2 (bWriteByte hba hpp 41 (by omega)))).mono ?_
          rintro e W3 ⟨rfl, v3, hba3, ho3, hn3⟩
          rw [← hk1.out] at hba3
          gi_wp2
          obtain ⟨a1, a2⟩ := Bx.step hDb ho3 hn3
          have hB3 : Bx Bn _ W3 (t0 ++ cyT xl) := ⟨_, _, hba3, .inr rfl, fun i => Iff.rfl⟩
          refine ⟨_, hOnr.trans a1 hGrr, hGrr.trans a2 hOnr.size, hB3.bd, ?_⟩
          have e2 : ∀ sv : Value, List.map Prod.snd (pre ++ [((sv, xl) : Cyc)]) = List.map Prod.snd pre ++ [xl] := fun sv => by rw [List.map_append]; rfl
          show Bx Bn _ W3 (txT (List.map Prod.snd (pre ++ [((_, xl) : Cyc)])))
          rw [e2, hsn.out]
          exact hB3
  case done =>
    intro d xs D W hS hI hOn hGr hd hnd hdef
    rw [hS] at hI
    obtain ⟨pb, vb, hba, hpp, hDb⟩ := hI
    have hdW : d < W.heap.size := (Array.getElem?_eq_some_iff.1 hdef).1
    have hfin : ∀ W', Only (fun k => vb.ownBlock = some k) W W' → Below w.heap.size w W' ∧ W'.heap[d]? = some (.deferred (some [])) := by
      intro W' ho
      constructor
      · rw [← hBne.out]
        refine Below.trans (hBne.out ▸ hbW) ((hOn.trans ho ?_).below (by omega) (fun i hi => by omega))
        intro i hi
        rcases hGr i ((hDb i).2 (.inr hi)) with h | h
        · exact .inl h
        · exact .inr h
      · rw [ho.same d hdW (fun h => hnd ((hDb d).2 (.inr h)))]
        exact hdef
    have hbl := bLen hba
    rw [Lib.byteCells_length] at hbl
    replace hbl := Lib.hid hbl
    have hst := Lib.hid (fun h0 => bString hba h0)
    by_cases hnil : txT L = []
    · have htp : textP L = { data := #[40, 41] } := by rw [textP, if_pos hnil]
      replace htp := Lib.hid htp
      have e0 : (((txT L).length : Int) == 0) = true := by rw [hnil]; rfl
      obtain ⟨n, hn⟩ : ∃ n, (txT L).length = n := ⟨_, rfl⟩
      rw [hn] at hbl e0
      clear hn hst hba hnil hS
      go_wp2_with (go_at_call 81; refine hbl.out.mono ?_; rintro e w5 ⟨rfl, rfl⟩)
      refine ⟨by simp, .inl ⟨_, _, rfl, run_takeDeferred hdef, ?_⟩⟩
      obtain ⟨f1, _⟩ := hfin _ (Only.refl _ _)
      have hBe := hBne.out
      exact ⟨_, results_tmp (t := 2) rfl _ _ _, congrArg (fun s => Ending.returned (Value.string s)) htp.out.symm, below_putObj f1 (by omega) _⟩
    · have htp : textP L = ⟨(txT L).toArray⟩ := by rw [textP, if_neg hnil]
      have hst' := Lib.hid (hst.out hnil)
      have e0 : (((txT L).length : Int) == 0) = false := by
        have : (txT L).length ≠ 0 := fun h => hnil (List.length_eq_zero_iff.1 h)
        simpa using this
      obtain ⟨n, hn⟩ : ∃ n, (txT L).length = n := ⟨_, rfl⟩
      obtain ⟨S, hS2⟩ : ∃ S : ByteArray, (⟨(txT L).toArray⟩ : ByteArray) = S := ⟨_, rfl⟩
      rw [hn] at hbl e0
      rw [hS2] at hst' htp
      replace htp := Lib.hid htp
      clear hn hst hba hnil hS hS2
      go_wp2_with (first | (go_at_call 81; refine hbl.out.mono ?_; rintro e w5 ⟨rfl, rfl⟩) | (go_at_call 82; refine hst'.out.mono ?_; rintro e w6 ⟨rfl, ho6⟩))
      obtain ⟨f1, f2⟩ := hfin _ ho6
      refine ⟨by simp, .inl ⟨_, _, rfl, run_takeDeferred f2, ?_⟩⟩
      have hBe := hBne.out
      exact ⟨_, results_tmp (t := 2) rfl _ _ _, congrArg (fun s => Ending.returned (Value.string s)) htp.out.symm, below_putObj f1 (by omega) _⟩
  case stop =>
    intro d c pre D W _ h
    exact h.elim
end Go.Proofs.YtpjlaaldepfnkaaDoor
