/- What the functions of the layer compute, as plain functions on lists. -/
import Derived.Test.YtpjlaaldepfnkaaDoorLib
namespace Go.Proofs.YtpjlaaldepfnkaaDoor
open Go.RowKit

/-- Check, from some element on. -/
def chkGo (n : Nat) : List Int → List Int → Int
  | _, [] => 0
  | seen, x :: r => if x < 0 ∨ (n : Int) ≤ x then 2 else if x ∈ seen then 7 else chkGo n (seen ++ [x]) r
def chk (xs : List Int) : Int := if xs.length < 1 ∨ 5 < xs.length then 2 else chkGo xs.length [] xs
theorem chkGo_step {xs : List Int} {k : Nat} (h : k < xs.length) :
    chkGo xs.length (xs.take k) (xs.drop k) =
      if xs.getD k 0 < 0 ∨ (xs.length : Int) ≤ xs.getD k 0 then 2 else if xs.getD k 0 ∈ xs.take k then 7 else chkGo xs.length (xs.take (k + 1)) (xs.drop (k + 1)) := by
  rw [drop_cons h 0, take_snoc h 0, chkGo]
theorem chkGo_end {xs : List Int} {k : Nat} (h : ¬ k < xs.length) : chkGo xs.length (xs.take k) (xs.drop k) = 0 := by
  rw [List.drop_eq_nil_of_le (by omega), chkGo]
def sameB (xs ys : List Int) : Bool := decide (xs = ys)
def sameAllB (xs ys : List (List Int)) : Bool := decide (xs = ys)
def hasB (xs : List Int) (x : Int) : Bool := decide (x ∈ xs)
def amongB (xs : List (List Int)) (x : List Int) : Bool := decide (x ∈ xs)
def cmpI (a b : Int) : Int := if a < b then -1 else if b < a then 1 else 0
def cmpL : List Int → List Int → Int
  | [], [] => 0
  | [], _ :: _ => -1
  | _ :: _, [] => 1
  | a :: xs, b :: ys => if cmpI a b = 0 then cmpL xs ys else cmpI a b
def idxGo (x : Int) : Nat → List Int → Int
  | _, [] => -1
  | k, y :: r => if x = y then k else idxGo x (k + 1) r
def idxI (xs : List Int) (x : Int) : Int := idxGo x 0 xs
def fewB (l : List (List Int)) : Bool := (l.take 41).all (fun a => decide (a.length ≤ 60)) && (decide (l.length ≤ 40) || decide (1024 < l.length))
def chkAll (n : Int) : List (List Int) → Int
  | [] => 0
  | a :: r => if chk a ≠ 0 then chk a else if (a.length : Int) ≠ n then 22 else chkAll n r
def chkList (n : Int) (l : List (List Int)) : Int := if n < 1 ∨ 5 < n then 2 else if 1024 < l.length then 5 else chkAll n l
def rightB (l : List (List Int)) : Bool := l.all (fun a => decide (chk a = 0) && decide (a.length = (l.getD 0 []).length))
end Go.Proofs.YtpjlaaldepfnkaaDoor
