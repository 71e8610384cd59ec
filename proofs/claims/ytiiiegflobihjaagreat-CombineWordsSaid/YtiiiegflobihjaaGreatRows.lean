/-
  No cell of these rows narrows 'for every input' (looked for: loops, veiled, ifaces, maps, wideKeys, modest, calm, conditions, laid).
  DERIVED. THE GIVEN ROWS OF THIS SEAT. 5 by the template 'for every input the law returns true; each argument reads behind the call as it read before'; 0 by the template 'total and deterministic' (their statements: YtiiiegflobihjaaGreatTotals.lean).
  GIVEN WITH THE SEED: the statements are not yours to turn. If you find one false, say at which input.
  Laid BY PROGRAM, IN A SANDBOX (cutbox-rows.mjs): the forced cells as the released guide's own fill.sh prints them over the translation 25718a8ceeaaaa0f… (all of the seat's roots in one cut). By AI agents, Wed Nov 11 2026. No macro, syntax, notation, axiom, sorry.
-/
import Derived.Test.YtiiiegflobihjaaGreatChecked
import GoSem.Claim
import GoSem.ClaimJoined
import GoSem.ClaimMapViews
import Derived.JoinedTies
import Derived.KernelRfl
namespace Go.Proofs.YtiiiegflobihjaaGreat
/- THE CELL 'sum', in the pinned program and in every row, IS THE sha256 OF THE DUMP (.gsa) THAT YtiiiegflobihjaaGreatProg.lean LOADS. Nothing in Lean hashes anything: it is a label: what it is worth is what the hold of that sum in a sandbox is worth. -/
noncomputable def Tryz.pinned : Pinned := { name := "ytiiiegflobihjaagreat", sum := "25718a8ceeaaaa0f8da0731e5fd93a05e4be05beabcb21bd8257b65bc1afd2a0", checked := Tryz.checked }
namespace Rows
def none {H : Type} : Left H := { results := [], args := [] }

/-- 'roundtablelaw18.CombineUnites': WHATEVER THE INPUT: true; the input reads as it did. -/
def combineUnitesSpec : ChangeSpec := { name := "combineUnites", fn := fun _ => fun
  | [d1, d2] => { results := [.lit (.bool true)], args := [d1, d2] }
  | _ => none }
def combineUnitesRow : OpenClaim := { program := "ytiiiegflobihjaagreat", sum := "25718a8ceeaaaa0f8da0731e5fd93a05e4be05beabcb21bd8257b65bc1afd2a0", func := "roundtable/roundtablelaw18.CombineUnites", spec := "combineUnites", unfollowed := true, recurses := true, plainKeys := false, apart := false }
def CombineUnitesSaid : Prop := combineUnitesRow.holds Tryz.pinned (OpenSpec.ofChange combineUnitesSpec)

/-- ITS FALSE NEIGHBOUR: 'it returns false'. Refute it at one input. -/
def combineUnitesWrong : ChangeSpec := { name := "combineUnites", fn := fun _ => fun
  | [d1, d2] => { results := [.lit (.bool false)], args := [d1, d2] }
  | _ => none }
def CombineUnitesWrongFalsely : Prop := combineUnitesRow.holds Tryz.pinned (OpenSpec.ofChange combineUnitesWrong)

/-- 'roundtablelaw18.CombineMeets': WHATEVER THE INPUT: true; the input reads as it did. -/
def combineMeetsSpec : ChangeSpec := { name := "combineMeets", fn := fun _ => fun
  | [d1, d2] => { results := [.lit (.bool true)], args := [d1, d2] }
  | _ => none }
def combineMeetsRow : OpenClaim := { program := "ytiiiegflobihjaagreat", sum := "25718a8ceeaaaa0f8da0731e5fd93a05e4be05beabcb21bd8257b65bc1afd2a0", func := "roundtable/roundtablelaw18.CombineMeets", spec := "combineMeets", unfollowed := true, recurses := true, plainKeys := false, apart := false }
def CombineMeetsSaid : Prop := combineMeetsRow.holds Tryz.pinned (OpenSpec.ofChange combineMeetsSpec)

/-- ITS FALSE NEIGHBOUR: 'it returns false'. Refute it at one input. -/
def combineMeetsWrong : ChangeSpec := { name := "combineMeets", fn := fun _ => fun
  | [d1, d2] => { results := [.lit (.bool false)], args := [d1, d2] }
  | _ => none }
def CombineMeetsWrongFalsely : Prop := combineMeetsRow.holds Tryz.pinned (OpenSpec.ofChange combineMeetsWrong)

/-- 'roundtablelaw18.CombineChains': WHATEVER THE INPUT: true; the input reads as it did. -/
def combineChainsSpec : ChangeSpec := { name := "combineChains", fn := fun _ => fun
  | [d1, d2, d3] => { results := [.lit (.bool true)], args := [d1, d2, d3] }
  | _ => none }
def combineChainsRow : OpenClaim := { program := "ytiiiegflobihjaagreat", sum := "25718a8ceeaaaa0f8da0731e5fd93a05e4be05beabcb21bd8257b65bc1afd2a0", func := "roundtable/roundtablelaw18.CombineChains", spec := "combineChains", unfollowed := true, recurses := true, plainKeys := false, apart := false }
def CombineChainsSaid : Prop := combineChainsRow.holds Tryz.pinned (OpenSpec.ofChange combineChainsSpec)

/-- ITS FALSE NEIGHBOUR: 'it returns false'. Refute it at one input. -/
def combineChainsWrong : ChangeSpec := { name := "combineChains", fn := fun _ => fun
  | [d1, d2, d3] => { results := [.lit (.bool false)], args := [d1, d2, d3] }
  | _ => none }
def CombineChainsWrongFalsely : Prop := combineChainsRow.holds Tryz.pinned (OpenSpec.ofChange combineChainsWrong)

/-- 'roundtablelaw18.CombineAbsorbs': WHATEVER THE INPUT: true; the input reads as it did. -/
def combineAbsorbsSpec : ChangeSpec := { name := "combineAbsorbs", fn := fun _ => fun
  | [d1, d2] => { results := [.lit (.bool true)], args := [d1, d2] }
  | _ => none }
def combineAbsorbsRow : OpenClaim := { program := "ytiiiegflobihjaagreat", sum := "25718a8ceeaaaa0f8da0731e5fd93a05e4be05beabcb21bd8257b65bc1afd2a0", func := "roundtable/roundtablelaw18.CombineAbsorbs", spec := "combineAbsorbs", unfollowed := true, recurses := true, plainKeys := false, apart := false }
def CombineAbsorbsSaid : Prop := combineAbsorbsRow.holds Tryz.pinned (OpenSpec.ofChange combineAbsorbsSpec)

/-- ITS FALSE NEIGHBOUR: 'it returns false'. Refute it at one input. -/
def combineAbsorbsWrong : ChangeSpec := { name := "combineAbsorbs", fn := fun _ => fun
  | [d1, d2] => { results := [.lit (.bool false)], args := [d1, d2] }
  | _ => none }
def CombineAbsorbsWrongFalsely : Prop := combineAbsorbsRow.holds Tryz.pinned (OpenSpec.ofChange combineAbsorbsWrong)

/-- 'roundtablelaw18.CombineWords': WHATEVER THE INPUT: true; the input reads as it did. -/
def combineWordsSpec : ChangeSpec := { name := "combineWords", fn := fun _ => fun
  | [d1, d2, d3] => { results := [.lit (.bool true)], args := [d1, d2, d3] }
  | _ => none }
def combineWordsRow : OpenClaim := { program := "ytiiiegflobihjaagreat", sum := "25718a8ceeaaaa0f8da0731e5fd93a05e4be05beabcb21bd8257b65bc1afd2a0", func := "roundtable/roundtablelaw18.CombineWords", spec := "combineWords", unfollowed := true, recurses := true, plainKeys := false, apart := false }
def CombineWordsSaid : Prop := combineWordsRow.holds Tryz.pinned (OpenSpec.ofChange combineWordsSpec)

/-- ITS FALSE NEIGHBOUR: 'it returns false'. Refute it at one input. -/
def combineWordsWrong : ChangeSpec := { name := "combineWords", fn := fun _ => fun
  | [d1, d2, d3] => { results := [.lit (.bool false)], args := [d1, d2, d3] }
  | _ => none }
def CombineWordsWrongFalsely : Prop := combineWordsRow.holds Tryz.pinned (OpenSpec.ofChange combineWordsWrong)

/- THE SECOND FORM. 'bulk': how many values and letters a reading holds, each counted each time it is reached (what is shared counts as often as it is met; a slice's spare places count too). A statement '..UptoSaid' is the law's where the arguments, and the package variables that the reading takes, are together of bulk at most 1048576: NARROWER than '..Said'. Prove '..Said' where nothing that the law and all that it calls make is longer than what came in: it says more and counts as full. Else prove '..UptoSaid'. A law counts once. -/
mutual
def uptoBulk {H : Type} : DataW H → Nat
  | .lit (.string bytes) => bytes.length + 1
  | .lit _ => 1
  | .nil => 1
  | .ptr d => uptoBulk d + 1
  | .slice elems spare => uptoBulkAll elems + uptoBulkAll spare + 1
  | .agg parts => uptoBulkAll parts + 1
  | .iface _ d => uptoBulk d + 1
  | .map entries => uptoBulkEntries entries + 1
  | .held _ => 1
def uptoBulkAll {H : Type} : List (DataW H) → Nat
  | [] => 0
  | d :: r => uptoBulk d + uptoBulkAll r
def uptoBulkEntries {H : Type} : List (Lit × DataW H) → Nat
  | [] => 0
  | x :: r => uptoBulkEntry x + uptoBulkEntries r
def uptoBulkEntry {H : Type} : Lit × DataW H → Nat
  | (.string bytes, d) => bytes.length + uptoBulk d + 1
  | (_, d) => uptoBulk d + 1
 end
def uptoSmall : (H : Type) → List (DataW H) → Bool := fun _ ds => decide (uptoBulkAll ds ≤ 1048576)
def OpenSpec.upto (s : _root_.Go.ChangeSpec) : _root_.Go.OpenSpec := { _root_.Go.OpenSpec.ofChange s with cond := some uptoSmall }

/-- 'roundtablelaw18.CombineUnites', WHERE WHAT IT READS IS OF BULK AT MOST 1048576: true; the input reads as it did. -/
def combineUnitesUptoRow : OpenClaim := { program := "ytiiiegflobihjaagreat", sum := "25718a8ceeaaaa0f8da0731e5fd93a05e4be05beabcb21bd8257b65bc1afd2a0", func := "roundtable/roundtablelaw18.CombineUnites", spec := "combineUnites", unfollowed := true, recurses := true, plainKeys := false, apart := false, narrowed := true }
def CombineUnitesUptoSaid : Prop := combineUnitesUptoRow.holds Tryz.pinned (OpenSpec.upto combineUnitesSpec)

/-- 'roundtablelaw18.CombineMeets', WHERE WHAT IT READS IS OF BULK AT MOST 1048576: true; the input reads as it did. -/
def combineMeetsUptoRow : OpenClaim := { program := "ytiiiegflobihjaagreat", sum := "25718a8ceeaaaa0f8da0731e5fd93a05e4be05beabcb21bd8257b65bc1afd2a0", func := "roundtable/roundtablelaw18.CombineMeets", spec := "combineMeets", unfollowed := true, recurses := true, plainKeys := false, apart := false, narrowed := true }
def CombineMeetsUptoSaid : Prop := combineMeetsUptoRow.holds Tryz.pinned (OpenSpec.upto combineMeetsSpec)

/-- 'roundtablelaw18.CombineChains', WHERE WHAT IT READS IS OF BULK AT MOST 1048576: true; the input reads as it did. -/
def combineChainsUptoRow : OpenClaim := { program := "ytiiiegflobihjaagreat", sum := "25718a8ceeaaaa0f8da0731e5fd93a05e4be05beabcb21bd8257b65bc1afd2a0", func := "roundtable/roundtablelaw18.CombineChains", spec := "combineChains", unfollowed := true, recurses := true, plainKeys := false, apart := false, narrowed := true }
def CombineChainsUptoSaid : Prop := combineChainsUptoRow.holds Tryz.pinned (OpenSpec.upto combineChainsSpec)

/-- 'roundtablelaw18.CombineAbsorbs', WHERE WHAT IT READS IS OF BULK AT MOST 1048576: true; the input reads as it did. -/
def combineAbsorbsUptoRow : OpenClaim := { program := "ytiiiegflobihjaagreat", sum := "25718a8ceeaaaa0f8da0731e5fd93a05e4be05beabcb21bd8257b65bc1afd2a0", func := "roundtable/roundtablelaw18.CombineAbsorbs", spec := "combineAbsorbs", unfollowed := true, recurses := true, plainKeys := false, apart := false, narrowed := true }
def CombineAbsorbsUptoSaid : Prop := combineAbsorbsUptoRow.holds Tryz.pinned (OpenSpec.upto combineAbsorbsSpec)

/-- 'roundtablelaw18.CombineWords', WHERE WHAT IT READS IS OF BULK AT MOST 1048576: true; the input reads as it did. -/
def combineWordsUptoRow : OpenClaim := { program := "ytiiiegflobihjaagreat", sum := "25718a8ceeaaaa0f8da0731e5fd93a05e4be05beabcb21bd8257b65bc1afd2a0", func := "roundtable/roundtablelaw18.CombineWords", spec := "combineWords", unfollowed := true, recurses := true, plainKeys := false, apart := false, narrowed := true }
def CombineWordsUptoSaid : Prop := combineWordsUptoRow.holds Tryz.pinned (OpenSpec.upto combineWordsSpec)

end Rows
end Go.Proofs.YtiiiegflobihjaaGreat
