/-
  No cell of these rows narrows 'for every input' (looked for: loops, veiled, ifaces, maps, wideKeys, modest, calm, conditions, laid).
  DERIVED. THE GIVEN ROWS OF THIS SEAT. 8 by the template 'for every input the law returns true; each argument reads behind the call as it read before'; 0 by the template 'total and deterministic' (their statements: YtmikofeildnpdaaGreatTotals.lean).
  GIVEN WITH THE SEED: the statements are not yours to turn. If you find one false, say at which input.
  Laid BY PROGRAM, IN A SANDBOX (cutbox-rows.mjs): the forced cells as the released guide's own fill.sh prints them over the translation bed55caa3fa55a49… (all of the seat's roots in one cut). By AI agents, Wed Nov 11 2026. No macro, syntax, notation, axiom, sorry.
-/
import Derived.Test.YtmikofeildnpdaaGreatChecked
import GoSem.Claim
import GoSem.ClaimJoined
import GoSem.ClaimMapViews
import Derived.JoinedTies
import Derived.KernelRfl
namespace Go.Proofs.YtmikofeildnpdaaGreat
/- THE CELL 'sum', in the pinned program and in every row, IS THE sha256 OF THE DUMP (.gsa) THAT YtmikofeildnpdaaGreatProg.lean LOADS. Nothing in Lean hashes anything: it is a label: what it is worth is what the hold of that sum in a sandbox is worth. -/
noncomputable def Tryz.pinned : Pinned := { name := "ytmikofeildnpdaagreat", sum := "bed55caa3fa55a497dcbf7351a7398717e9dffc2336298b950624c624f5ba53e", checked := Tryz.checked }
namespace Rows
def none {H : Type} : Left H := { results := [], args := [] }

/-- 'roundtablelaw21.SymmetryPermutes': WHATEVER THE INPUT: true; the input reads as it did. -/
def symmetryPermutesSpec : ChangeSpec := { name := "symmetryPermutes", fn := fun _ => fun
  | [d1, d2] => { results := [.lit (.bool true)], args := [d1, d2] }
  | _ => none }
def symmetryPermutesRow : OpenClaim := { program := "ytmikofeildnpdaagreat", sum := "bed55caa3fa55a497dcbf7351a7398717e9dffc2336298b950624c624f5ba53e", func := "roundtable/roundtablelaw21.SymmetryPermutes", spec := "symmetryPermutes", unfollowed := true, recurses := true, plainKeys := false, apart := false }
def SymmetryPermutesSaid : Prop := symmetryPermutesRow.holds Tryz.pinned (OpenSpec.ofChange symmetryPermutesSpec)

/-- ITS FALSE NEIGHBOUR: 'it returns false'. Refute it at one input. -/
def symmetryPermutesWrong : ChangeSpec := { name := "symmetryPermutes", fn := fun _ => fun
  | [d1, d2] => { results := [.lit (.bool false)], args := [d1, d2] }
  | _ => none }
def SymmetryPermutesWrongFalsely : Prop := symmetryPermutesRow.holds Tryz.pinned (OpenSpec.ofChange symmetryPermutesWrong)

/-- 'roundtablelaw21.SymmetryGroups': WHATEVER THE INPUT: true; the input reads as it did. -/
def symmetryGroupsSpec : ChangeSpec := { name := "symmetryGroups", fn := fun _ => fun
  | [d] => { results := [.lit (.bool true)], args := [d] }
  | _ => none }
def symmetryGroupsRow : OpenClaim := { program := "ytmikofeildnpdaagreat", sum := "bed55caa3fa55a497dcbf7351a7398717e9dffc2336298b950624c624f5ba53e", func := "roundtable/roundtablelaw21.SymmetryGroups", spec := "symmetryGroups", unfollowed := true, recurses := true, plainKeys := false, apart := false }
def SymmetryGroupsSaid : Prop := symmetryGroupsRow.holds Tryz.pinned (OpenSpec.ofChange symmetryGroupsSpec)

/-- ITS FALSE NEIGHBOUR: 'it returns false'. Refute it at one input. -/
def symmetryGroupsWrong : ChangeSpec := { name := "symmetryGroups", fn := fun _ => fun
  | [d] => { results := [.lit (.bool false)], args := [d] }
  | _ => none }
def SymmetryGroupsWrongFalsely : Prop := symmetryGroupsRow.holds Tryz.pinned (OpenSpec.ofChange symmetryGroupsWrong)

/-- 'roundtablelaw21.SymmetryOrbits': WHATEVER THE INPUT: true; the input reads as it did. -/
def symmetryOrbitsSpec : ChangeSpec := { name := "symmetryOrbits", fn := fun _ => fun
  | [d1, d2] => { results := [.lit (.bool true)], args := [d1, d2] }
  | _ => none }
def symmetryOrbitsRow : OpenClaim := { program := "ytmikofeildnpdaagreat", sum := "bed55caa3fa55a497dcbf7351a7398717e9dffc2336298b950624c624f5ba53e", func := "roundtable/roundtablelaw21.SymmetryOrbits", spec := "symmetryOrbits", unfollowed := true, recurses := true, plainKeys := false, apart := false }
def SymmetryOrbitsSaid : Prop := symmetryOrbitsRow.holds Tryz.pinned (OpenSpec.ofChange symmetryOrbitsSpec)

/-- ITS FALSE NEIGHBOUR: 'it returns false'. Refute it at one input. -/
def symmetryOrbitsWrong : ChangeSpec := { name := "symmetryOrbits", fn := fun _ => fun
  | [d1, d2] => { results := [.lit (.bool false)], args := [d1, d2] }
  | _ => none }
def SymmetryOrbitsWrongFalsely : Prop := symmetryOrbitsRow.holds Tryz.pinned (OpenSpec.ofChange symmetryOrbitsWrong)

/-- 'roundtablelaw21.SymmetryMoves': WHATEVER THE INPUT: true; the input reads as it did. -/
def symmetryMovesSpec : ChangeSpec := { name := "symmetryMoves", fn := fun _ => fun
  | [d1, d2] => { results := [.lit (.bool true)], args := [d1, d2] }
  | _ => none }
def symmetryMovesRow : OpenClaim := { program := "ytmikofeildnpdaagreat", sum := "bed55caa3fa55a497dcbf7351a7398717e9dffc2336298b950624c624f5ba53e", func := "roundtable/roundtablelaw21.SymmetryMoves", spec := "symmetryMoves", unfollowed := true, recurses := true, plainKeys := false, apart := false }
def SymmetryMovesSaid : Prop := symmetryMovesRow.holds Tryz.pinned (OpenSpec.ofChange symmetryMovesSpec)

/-- ITS FALSE NEIGHBOUR: 'it returns false'. Refute it at one input. -/
def symmetryMovesWrong : ChangeSpec := { name := "symmetryMoves", fn := fun _ => fun
  | [d1, d2] => { results := [.lit (.bool false)], args := [d1, d2] }
  | _ => none }
def SymmetryMovesWrongFalsely : Prop := symmetryMovesRow.holds Tryz.pinned (OpenSpec.ofChange symmetryMovesWrong)

/-- 'roundtablelaw21.SymmetryCloses': WHATEVER THE INPUT: true; the input reads as it did. -/
def symmetryClosesSpec : ChangeSpec := { name := "symmetryCloses", fn := fun _ => fun
  | [d1, d2, d3] => { results := [.lit (.bool true)], args := [d1, d2, d3] }
  | _ => none }
def symmetryClosesRow : OpenClaim := { program := "ytmikofeildnpdaagreat", sum := "bed55caa3fa55a497dcbf7351a7398717e9dffc2336298b950624c624f5ba53e", func := "roundtable/roundtablelaw21.SymmetryCloses", spec := "symmetryCloses", unfollowed := true, recurses := true, plainKeys := false, apart := false }
def SymmetryClosesSaid : Prop := symmetryClosesRow.holds Tryz.pinned (OpenSpec.ofChange symmetryClosesSpec)

/-- ITS FALSE NEIGHBOUR: 'it returns false'. Refute it at one input. -/
def symmetryClosesWrong : ChangeSpec := { name := "symmetryCloses", fn := fun _ => fun
  | [d1, d2, d3] => { results := [.lit (.bool false)], args := [d1, d2, d3] }
  | _ => none }
def SymmetryClosesWrongFalsely : Prop := symmetryClosesRow.holds Tryz.pinned (OpenSpec.ofChange symmetryClosesWrong)

/-- 'roundtablelaw21.SymmetryProblems': WHATEVER THE INPUT: true; the input reads as it did. -/
def symmetryProblemsSpec : ChangeSpec := { name := "symmetryProblems", fn := fun _ => fun
  | [d1, d2] => { results := [.lit (.bool true)], args := [d1, d2] }
  | _ => none }
def symmetryProblemsRow : OpenClaim := { program := "ytmikofeildnpdaagreat", sum := "bed55caa3fa55a497dcbf7351a7398717e9dffc2336298b950624c624f5ba53e", func := "roundtable/roundtablelaw21.SymmetryProblems", spec := "symmetryProblems", unfollowed := true, recurses := true, plainKeys := false, apart := false }
def SymmetryProblemsSaid : Prop := symmetryProblemsRow.holds Tryz.pinned (OpenSpec.ofChange symmetryProblemsSpec)

/-- ITS FALSE NEIGHBOUR: 'it returns false'. Refute it at one input. -/
def symmetryProblemsWrong : ChangeSpec := { name := "symmetryProblems", fn := fun _ => fun
  | [d1, d2] => { results := [.lit (.bool false)], args := [d1, d2] }
  | _ => none }
def SymmetryProblemsWrongFalsely : Prop := symmetryProblemsRow.holds Tryz.pinned (OpenSpec.ofChange symmetryProblemsWrong)

/-- 'roundtablelaw21.SymmetryAgrees': WHATEVER THE INPUT: true; the input reads as it did. -/
def symmetryAgreesSpec : ChangeSpec := { name := "symmetryAgrees", fn := fun _ => fun
  | [d] => { results := [.lit (.bool true)], args := [d] }
  | _ => none }
def symmetryAgreesRow : OpenClaim := { program := "ytmikofeildnpdaagreat", sum := "bed55caa3fa55a497dcbf7351a7398717e9dffc2336298b950624c624f5ba53e", func := "roundtable/roundtablelaw21.SymmetryAgrees", spec := "symmetryAgrees", unfollowed := true, recurses := true, plainKeys := false, apart := false }
def SymmetryAgreesSaid : Prop := symmetryAgreesRow.holds Tryz.pinned (OpenSpec.ofChange symmetryAgreesSpec)

/-- ITS FALSE NEIGHBOUR: 'it returns false'. Refute it at one input. -/
def symmetryAgreesWrong : ChangeSpec := { name := "symmetryAgrees", fn := fun _ => fun
  | [d] => { results := [.lit (.bool false)], args := [d] }
  | _ => none }
def SymmetryAgreesWrongFalsely : Prop := symmetryAgreesRow.holds Tryz.pinned (OpenSpec.ofChange symmetryAgreesWrong)

/-- 'roundtablelaw21.SymmetryWords': WHATEVER THE INPUT: true; the input reads as it did. -/
def symmetryWordsSpec : ChangeSpec := { name := "symmetryWords", fn := fun _ => fun
  | [d1, d2, d3] => { results := [.lit (.bool true)], args := [d1, d2, d3] }
  | _ => none }
def symmetryWordsRow : OpenClaim := { program := "ytmikofeildnpdaagreat", sum := "bed55caa3fa55a497dcbf7351a7398717e9dffc2336298b950624c624f5ba53e", func := "roundtable/roundtablelaw21.SymmetryWords", spec := "symmetryWords", unfollowed := true, recurses := true, plainKeys := false, apart := false }
def SymmetryWordsSaid : Prop := symmetryWordsRow.holds Tryz.pinned (OpenSpec.ofChange symmetryWordsSpec)

/-- ITS FALSE NEIGHBOUR: 'it returns false'. Refute it at one input. -/
def symmetryWordsWrong : ChangeSpec := { name := "symmetryWords", fn := fun _ => fun
  | [d1, d2, d3] => { results := [.lit (.bool false)], args := [d1, d2, d3] }
  | _ => none }
def SymmetryWordsWrongFalsely : Prop := symmetryWordsRow.holds Tryz.pinned (OpenSpec.ofChange symmetryWordsWrong)

/- THE SECOND FORM. 'bulk': how many values and letters a reading holds, each counted each time it is reached (what is shared counts as often as it is met; a slice's spare places count too). A statement '..UptoSaid' is the law's where the arguments, and the package variables that the reading takes, are together of bulk at most 1048576: NARROWER than '..Said'. Prove '..Said' where nothing that the law and all that it calls make is longer than what came in: it says more and counts as full. Else prove '..UptoSaid'. A law counts once. -/
mutual
def uptoBulk {H : Type} : DataW H → Nat
  | .lit (.string bytes) => bytes.length + 1
  | .lit _ => 1
  | .nil => 1
  | .ptr d => uptoBulk d + 1
  | .slice elems spare => uptoBulkAll elems + uptoBulkAll spare + 1
  | .agg parts => uptoBulkAll parts + 1
  | .iface _ d => uptoBulk d + 1
  | .map entries => uptoBulkEntries entries + 1
  | .held _ => 1
def uptoBulkAll {H : Type} : List (DataW H) → Nat
  | [] => 0
  | d :: r => uptoBulk d + uptoBulkAll r
def uptoBulkEntries {H : Type} : List (Lit × DataW H) → Nat
  | [] => 0
  | x :: r => uptoBulkEntry x + uptoBulkEntries r
def uptoBulkEntry {H : Type} : Lit × DataW H → Nat
  | (.string bytes, d) => bytes.length + uptoBulk d + 1
  | (_, d) => uptoBulk d + 1
 end
def uptoSmall : (H : Type) → List (DataW H) → Bool := fun _ ds => decide (uptoBulkAll ds ≤ 1048576)
def OpenSpec.upto (s : _root_.Go.ChangeSpec) : _root_.Go.OpenSpec := { _root_.Go.OpenSpec.ofChange s with cond := some uptoSmall }

/-- 'roundtablelaw21.SymmetryPermutes', WHERE WHAT IT READS IS OF BULK AT MOST 1048576: true; the input reads as it did. -/
def symmetryPermutesUptoRow : OpenClaim := { program := "ytmikofeildnpdaagreat", sum := "bed55caa3fa55a497dcbf7351a7398717e9dffc2336298b950624c624f5ba53e", func := "roundtable/roundtablelaw21.SymmetryPermutes", spec := "symmetryPermutes", unfollowed := true, recurses := true, plainKeys := false, apart := false, narrowed := true }
def SymmetryPermutesUptoSaid : Prop := symmetryPermutesUptoRow.holds Tryz.pinned (OpenSpec.upto symmetryPermutesSpec)

/-- 'roundtablelaw21.SymmetryGroups', WHERE WHAT IT READS IS OF BULK AT MOST 1048576: true; the input reads as it did. -/
def symmetryGroupsUptoRow : OpenClaim := { program := "ytmikofeildnpdaagreat", sum := "bed55caa3fa55a497dcbf7351a7398717e9dffc2336298b950624c624f5ba53e", func := "roundtable/roundtablelaw21.SymmetryGroups", spec := "symmetryGroups", unfollowed := true, recurses := true, plainKeys := false, apart := false, narrowed := true }
def SymmetryGroupsUptoSaid : Prop := symmetryGroupsUptoRow.holds Tryz.pinned (OpenSpec.upto symmetryGroupsSpec)

/-- 'roundtablelaw21.SymmetryOrbits', WHERE WHAT IT READS IS OF BULK AT MOST 1048576: true; the input reads as it did. -/
def symmetryOrbitsUptoRow : OpenClaim := { program := "ytmikofeildnpdaagreat", sum := "bed55caa3fa55a497dcbf7351a7398717e9dffc2336298b950624c624f5ba53e", func := "roundtable/roundtablelaw21.SymmetryOrbits", spec := "symmetryOrbits", unfollowed := true, recurses := true, plainKeys := false, apart := false, narrowed := true }
def SymmetryOrbitsUptoSaid : Prop := symmetryOrbitsUptoRow.holds Tryz.pinned (OpenSpec.upto symmetryOrbitsSpec)

/-- 'roundtablelaw21.SymmetryMoves', WHERE WHAT IT READS IS OF BULK AT MOST 1048576: true; the input reads as it did. -/
def symmetryMovesUptoRow : OpenClaim := { program := "ytmikofeildnpdaagreat", sum := "bed55caa3fa55a497dcbf7351a7398717e9dffc2336298b950624c624f5ba53e", func := "roundtable/roundtablelaw21.SymmetryMoves", spec := "symmetryMoves", unfollowed := true, recurses := true, plainKeys := false, apart := false, narrowed := true }
def SymmetryMovesUptoSaid : Prop := symmetryMovesUptoRow.holds Tryz.pinned (OpenSpec.upto symmetryMovesSpec)

/-- 'roundtablelaw21.SymmetryCloses', WHERE WHAT IT READS IS OF BULK AT MOST 1048576: true; the input reads as it did. -/
def symmetryClosesUptoRow : OpenClaim := { program := "ytmikofeildnpdaagreat", sum := "bed55caa3fa55a497dcbf7351a7398717e9dffc2336298b950624c624f5ba53e", func := "roundtable/roundtablelaw21.SymmetryCloses", spec := "symmetryCloses", unfollowed := true, recurses := true, plainKeys := false, apart := false, narrowed := true }
def SymmetryClosesUptoSaid : Prop := symmetryClosesUptoRow.holds Tryz.pinned (OpenSpec.upto symmetryClosesSpec)

/-- 'roundtablelaw21.SymmetryProblems', WHERE WHAT IT READS IS OF BULK AT MOST 1048576: true; the input reads as it did. -/
def symmetryProblemsUptoRow : OpenClaim := { program := "ytmikofeildnpdaagreat", sum := "bed55caa3fa55a497dcbf7351a7398717e9dffc2336298b950624c624f5ba53e", func := "roundtable/roundtablelaw21.SymmetryProblems", spec := "symmetryProblems", unfollowed := true, recurses := true, plainKeys := false, apart := false, narrowed := true }
def SymmetryProblemsUptoSaid : Prop := symmetryProblemsUptoRow.holds Tryz.pinned (OpenSpec.upto symmetryProblemsSpec)

/-- 'roundtablelaw21.SymmetryAgrees', WHERE WHAT IT READS IS OF BULK AT MOST 1048576: true; the input reads as it did. -/
def symmetryAgreesUptoRow : OpenClaim := { program := "ytmikofeildnpdaagreat", sum := "bed55caa3fa55a497dcbf7351a7398717e9dffc2336298b950624c624f5ba53e", func := "roundtable/roundtablelaw21.SymmetryAgrees", spec := "symmetryAgrees", unfollowed := true, recurses := true, plainKeys := false, apart := false, narrowed := true }
def SymmetryAgreesUptoSaid : Prop := symmetryAgreesUptoRow.holds Tryz.pinned (OpenSpec.upto symmetryAgreesSpec)

/-- 'roundtablelaw21.SymmetryWords', WHERE WHAT IT READS IS OF BULK AT MOST 1048576: true; the input reads as it did. -/
def symmetryWordsUptoRow : OpenClaim := { program := "ytmikofeildnpdaagreat", sum := "bed55caa3fa55a497dcbf7351a7398717e9dffc2336298b950624c624f5ba53e", func := "roundtable/roundtablelaw21.SymmetryWords", spec := "symmetryWords", unfollowed := true, recurses := true, plainKeys := false, apart := false, narrowed := true }
def SymmetryWordsUptoSaid : Prop := symmetryWordsUptoRow.holds Tryz.pinned (OpenSpec.upto symmetryWordsSpec)

end Rows
end Go.Proofs.YtmikofeildnpdaaGreat
