/- The walks of the reference's digit and Text. -/
import Derived.Test.YtpjlaaldepfnkaaDoorWi
import Derived.Deep.LoopGhost
namespace Go.Proofs.YtpjlaaldepfnkaaDoor
open Go.RowKit

def digs : ByteArray := { data := #[48, 49, 50, 51, 52, 53, 54, 55, 56, 57] }
def dig (p : Int) : ByteArray := digs.extract p.toNat (p + 1).toNat
theorem dig_size (p : Int) : (dig p).size ≤ 1 := by
  unfold dig; rw [ByteArray.size_extract]; omega

set_option maxHeartbeats 400000 in
theorem refDigit (p : Int) (w : World) (h0 : 0 ≤ p) (h9 : p < 10) : Calls Tryd.prog 83 #[.int .i64 p] w fun e w' => e = .returned (.string (dig p)) ∧ w = w' := by
  go_enter Tryd.func83, Tryd.ntmps83
  go_wp2
  go_ret
  exact ⟨rfl, rfl⟩

def tIn (a : List Int) (p : Int) : Nat → Int → ByteArray → Int → Option (ByteArray × Int)
  | 0, _, _, _ => none
  | f + 1, q, o, d => if q = p then some (o, d) else tIn a p f (a.getD q.toNat 0) (o ++ ({ data := #[32] } ++ dig q)) (bits BinOp.or IntKind.i64 d (wrap64 (2 ^ q.toNat)))
def tOut (a : List Int) : Nat → Nat → ByteArray → Int → Option ByteArray
  | 0, _, o, _ => some o
  | c + 1, k, o, d =>
    if (bits BinOp.and IntKind.i64 (d / 2 ^ k) 1 == 1) = true ∨ a.getD k 0 = k then tOut a c (k + 1) o d else
      match tIn a k 7 (a.getD k 0) (o ++ ({ data := #[40] } ++ dig k)) d with
      | none => none
      | some (o', d') => tOut a c (k + 1) (o' ++ { data := #[41] }) d'
def textR (a : List Int) (r : ByteArray) : Prop := ∃ o, tOut a a.length 0 ByteArray.empty 0 = some o ∧ r = if o.toList = [] then { data := #[40, 41] } else o

theorem tOut_skip {a : List Int} {c k : Nat} {o : ByteArray} {d q : Int} {R : Option ByteArray} (h : tOut a (c + 1) k o d = R) (hq : a.getD k 0 = q) (hs : (bits BinOp.and IntKind.i64 (d / 2 ^ k) 1 == 1) = true ∨ q = k) : tOut a c (k + 1) o d = R := by
  rw [tOut, hq, if_pos hs] at h; exact h
theorem tOut_go {a : List Int} {c k : Nat} {o r : ByteArray} {d q : Int} (h : tOut a (c + 1) k o d = some r) (hq : a.getD k 0 = q) (hs : ¬ ((bits BinOp.and IntKind.i64 (d / 2 ^ k) 1 == 1) = true ∨ q = k)) :
    ∃ o' d', tIn a k 7 q (o ++ ({ data := #[40] } ++ dig k)) d = some (o', d') ∧ tOut a c (k + 1) (o' ++ { data := #[41] }) d' = some r := by
  rw [tOut, hq, if_neg hs] at h
  cases hh : tIn a k 7 q (o ++ ({ data := #[40] } ++ dig k)) d with
  | none => rw [hh] at h; cases h
  | some x => rw [hh] at h; exact ⟨x.1, x.2, rfl, h⟩

set_option maxRecDepth 100000 in
set_option maxHeartbeats 1600000 in
theorem refText {w : World} {u : Value} {a : List Int} (h : Ints w u a) (hG : Good a.length a) (h5 : a.length ≤ 5) {r : ByteArray} (hr : textR a r) :
    Calls Tryd.prog 65 #[u] w fun e w' => e = .returned (.string r) ∧ Qt w w' := by
  obtain ⟨of, hrun, hfin⟩ := hr
  replace hrun := Lib.hid hrun
  replace hfin := Lib.hid hfin
  obtain ⟨aa, ac, ab, ao, rfl, ha, hc, hl⟩ := h
  go_enter Tryd.func65, Tryd.ntmps65
  go_wp2
  go_loopw [3, 4, 5] (fun o d i wr => ∃ (k c : Nat) (s : ByteArray) (x : Int), Hid (k + c = a.length) ∧ k ≤ a.length ∧ i = .int .i64 k ∧ d = .int .i64 x ∧ o = .string s ∧ s.size ≤ 100 * k ∧ Hid (tOut a c k s x = some of) ∧ Hid (Qt w wr)) (fun _ _ i _ => a.length - (intOf i).toNat)
  case atStart => exact ⟨0, a.length, ByteArray.empty, 0, Nat.zero_add _, by omega, rfl, rfl, rfl, by simp, hrun.out, Qt.refl _⟩
  case round =>
    clear hrun
    obtain ⟨k, c, s, x, hkc, hk, rfl, rfl, rfl, hs, hg, hq⟩ := hrel
    have hkc' := hkc.out
    by_cases hlt : k < a.length
    · obtain ⟨c, rfl⟩ : ∃ c', c = c' + 1 := ⟨c - 1, by omega⟩
      clear hkc'
      obtain ⟨g1, g2⟩ := hG k hlt
      obtain rfl := ha (by omega)
      have hck := hc.qt hq.out k hlt
      obtain ⟨q, hq'⟩ : ∃ q, a.getD k 0 = q := ⟨_, rfl⟩
      rw [hq'] at hck g1 g2
      replace hq' := Lib.hid hq'
      by_cases hsk : (bits BinOp.and IntKind.i64 (x / 2 ^ k) 1 == 1) = true ∨ q = k
      · have hg' := Lib.hid (tOut_skip hg.out hq'.out hsk)
        by_cases hsk1 : (bits BinOp.and IntKind.i64 (x / 2 ^ k) 1 == 1) = true
        · clear hsk ha hc hG
          go_wp2
          go_roundw
          case rel => exact ⟨k + 1, c, s, x, by have := hkc.out; show _ = _; omega, by omega, by go_num, rfl, rfl, by omega, hg', hq⟩
          case measure => simp [intOf]; omega
        · have hsk1' : (bits BinOp.and IntKind.i64 (x / 2 ^ k) 1 == 1) = false := eq_false_of_ne_true hsk1
          have hsk2 : (q == (k : Int)) = true := by simpa using hsk.resolve_left hsk1
          clear hsk ha hc hG hsk1
          go_wp2
          go_roundw
          case rel => exact ⟨k + 1, c, s, x, by have := hkc.out; show _ = _; omega, by omega, by go_num, rfl, rfl, by omega, hg', hq⟩
          case measure => simp [intOf]; omega
      · obtain ⟨o', d', h1, h2⟩ := tOut_go hg.out hq'.out hsk
        have hsk1' : (bits BinOp.and IntKind.i64 (x / 2 ^ k) 1 == 1) = false := eq_false_of_ne_true fun h => hsk (.inl h)
        have hsk2 : (q == (k : Int)) = false := by simpa using fun h => hsk (.inr h)
        replace h1 := Lib.hid h1
        replace h2 := Lib.hid h2
        have hds := dig_size k
        clear hsk
        go_wp2_with (go_at_call 83; refine (refDigit _ _ (by omega) (by omega)).mono ?_; rintro e w2 ⟨rfl, rfl⟩)
        obtain ⟨wo, hwo⟩ : ∃ wo, wo = wr := ⟨_, rfl⟩
        rw [← hwo] at hq ⊢
        clear hwo hck
        have hs0 : s.size + 2 ≤ 100 * k + 2 := by omega
        go_loopg [3, 4, 6] 7 (fun f o d i wr => ∃ (s : ByteArray) (x q : Int), f ≤ 7 ∧ i = .int .i64 q ∧ 0 ≤ q ∧ q < a.length ∧ d = .int .i64 x ∧ o = .string s ∧ s.size ≤ 100 * k + 2 + 3 * (7 - f) ∧ Hid (tIn a k f q s x = some (o', d')) ∧ Hid (Qt w wr))
        case atStart => exact ⟨_, x, q, by omega, rfl, g1, g2, rfl, rfl, by simp only [ByteArray.size_append]; have : ByteArray.size { data := #[40] } = 1 := rfl; omega, h1, hq⟩
        case round =>
          clear hq hs hs0 hds g1 g2 h1 hq'
          obtain ⟨s, x, q, hf, rfl, g1, g2, rfl, rfl, hs, hi, hq⟩ := hrel
          obtain ⟨f, rfl⟩ : ∃ f, gk = f + 1 := by
            cases gk with
            | zero => have := hi.out; simp [tIn] at this
            | succ f => exact ⟨f, rfl⟩
          by_cases hqk : q = k
          · have hqk' : (q != (k : Int)) = false := by simpa using hqk
            have hi' := hi.out
            rw [tIn, if_pos hqk] at hi'
            have e1 := (Prod.mk.inj (Option.some.inj hi')).1
            have e2 := (Prod.mk.inj (Option.some.inj hi')).2
            have h2' := h2.out
            rw [← e1, ← e2] at h2'
            replace h2' := Lib.hid h2'
            clear e1 e2 hi' hi h2 ha hc hG
            replace hqk := Lib.hid hqk
            go_wp2
            go_roundw
            case rel => exact ⟨k + 1, c, _, _, by have := hkc.out; show _ = _; omega, by omega, by go_num, rfl, rfl, by simp only [ByteArray.size_append]; have : ByteArray.size { data := #[41] } = 1 := rfl; omega, h2', hq⟩
            case measure => simp [intOf]; omega
          · have hqk' : (q != (k : Int)) = true := by simpa using hqk
            have hi' := hi.out
            rw [tIn, if_neg hqk] at hi'
            replace hi' := Lib.hid hi'
            obtain ⟨n1, n2⟩ := hG q.toNat (by omega)
            have hcq := hc.qt hq.out q.toNat (by omega)
            obtain ⟨q2, hq2⟩ : ∃ q2, a.getD q.toNat 0 = q2 := ⟨_, rfl⟩
            rw [hq2] at hcq hi' n1 n2
            have hds := dig_size q
            clear hq2 ha hc hG hi h2 hqk
            go_wp2_with (go_at_call 83; refine (refDigit _ _ (by omega) (by omega)).mono ?_; rintro e w2 ⟨rfl, rfl⟩)
            go_roundg f
            case measure => omega
            case rel => exact ⟨_, _, q2, by omega, rfl, n1, n2, rfl, rfl, by simp only [ByteArray.size_append]; have : ByteArray.size { data := #[32] } = 1 := rfl; omega, hi', hq⟩
    · obtain rfl : k = a.length := by omega
      obtain rfl : c = 0 := by omega
      have hg' := Option.some.inj (hg.out)
      have hf' := hfin.out
      rw [← hg'] at hf'
      clear hg' hfin hg
      by_cases he : s.toList = []
      · rw [if_pos he] at hf'
        replace hf' := Lib.hid hf'
        have he' : s.toList.isEmpty = true := by simp [he]
        clear ha hc hG he
        go_wp2
        go_ret
        exact ⟨by rw [hf'.out]; rfl, hq.out⟩
      · rw [if_neg he] at hf'
        replace hf' := Lib.hid hf'
        have he' : s.toList.isEmpty = false := by simp [he]
        clear ha hc hG
        go_wp2
        go_ret
        exact ⟨by rw [hf'.out]; rfl, hq.out⟩
end Go.Proofs.YtpjlaaldepfnkaaDoor
