/- strconv.Itoa of small numbers. -/
import Derived.Test.YtpjlaaldepfnkaaDoorBv
namespace Go.Proofs.YtpjlaaldepfnkaaDoor
open Go.RowKit

def digz : ByteArray := { data := #[48, 49, 50, 51, 52, 53, 54, 55, 56, 57, 97, 98, 99, 100, 101, 102, 103, 104, 105, 106, 107, 108, 109, 110, 111, 112, 113, 114, 115, 116, 117, 118, 119, 120, 121, 122] }
def digI (p : Int) : ByteArray := digz.extract p.toNat (p + 1).toNat

set_option maxRecDepth 100000 in
set_option maxHeartbeats 400000 in
theorem smallCall (p : Int) (w : World) (h0 : 0 ≤ p) (h9 : p < 10) : Calls Tryd.prog 120 #[.int .i64 p] w fun e w' => e = .returned (.string (digI p)) ∧ w = w' := by
  go_enter Tryd.func120, Tryd.ntmps120
  go_wp2
  go_ret
  exact ⟨rfl, rfl⟩

set_option maxRecDepth 100000 in
set_option maxHeartbeats 400000 in
theorem fmtIntCall (p : Int) (w : World) (h0 : 0 ≤ p) (h9 : p < 10) : Calls Tryd.prog 115 #[.int .i64 p, .int .i64 10] w fun e w' => e = .returned (.string (digI p)) ∧ Qt w w' := by
  have e120 : ∀ args w, (callFunc 120 args).run Tryd.prog w = .ok (.enter 120 args) w := enters_of Tryd.func120 (by kernel_rfl) rfl
  go_enter Tryd.func115, Tryd.ntmps115
  go_wp2_with (go_at_call 120; refine (smallCall p _ h0 h9).mono ?_; rintro _ _ ⟨rfl, rfl⟩)
  go_ret
  exact ⟨rfl, Qt.refl _⟩

set_option maxRecDepth 100000 in
set_option maxHeartbeats 400000 in
theorem itoa1 (p : Int) (w : World) (h0 : 0 ≤ p) (h9 : p < 10) : Calls Tryd.prog 99 #[.int .i64 p] w fun e w' => e = .returned (.string (digI p)) ∧ Qt w w' := by
  have e115 : ∀ args w, (callFunc 115 args).run Tryd.prog w = .ok (.enter 115 args) w := enters_of Tryd.func115 (by kernel_rfl) rfl
  go_enter Tryd.func99, Tryd.ntmps99
  go_wp2_with (go_at_call 115; refine (fmtIntCall p _ h0 h9).mono ?_; rintro _ wr ⟨rfl, hq⟩)
  go_ret
  exact ⟨rfl, hq⟩

set_option maxRecDepth 100000 in
set_option maxHeartbeats 400000 in
/-- strconv.Itoa. -/
theorem itoaCall (p : Int) (w : World) (h0 : 0 ≤ p) (h9 : p < 10) : Calls Tryd.prog 79 #[.int .i64 p] w fun e w' => e = .returned (.string (digI p)) ∧ Qt w w' := by
  have e99 : ∀ args w, (callFunc 99 args).run Tryd.prog w = .ok (.enter 99 args) w := enters_of Tryd.func99 (by kernel_rfl) rfl
  go_enter Tryd.func79, Tryd.ntmps79
  go_wp2_with (go_at_call 99; refine (itoa1 p _ h0 h9).mono ?_; rintro _ wr ⟨rfl, hq⟩)
  go_ret
  exact ⟨rfl, hq⟩
end Go.Proofs.YtpjlaaldepfnkaaDoor
