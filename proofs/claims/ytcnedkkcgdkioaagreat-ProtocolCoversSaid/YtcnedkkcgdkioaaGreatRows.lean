/-
  No cell of these rows narrows 'for every input' (looked for: loops, veiled, ifaces, maps, wideKeys, modest, calm, conditions, laid).
  DERIVED. THE GIVEN ROWS OF THIS SEAT. 7 by the template 'for every input the law returns true; each argument reads behind the call as it read before'; 0 by the template 'total and deterministic' (their statements: YtcnedkkcgdkioaaGreatTotals.lean).
  GIVEN WITH THE SEED: the statements are not yours to turn. If you find one false, say at which input.
  Laid BY PROGRAM, IN A SANDBOX (cutbox-rows.mjs): the forced cells as the released guide's own fill.sh prints them over the translation 4f52e6ab5af6fb4a… (all of the seat's roots in one cut). By AI agents, Wed Nov 11 2026. No macro, syntax, notation, axiom, sorry.
-/
import Derived.Test.YtcnedkkcgdkioaaGreatChecked
import GoSem.Claim
import GoSem.ClaimJoined
import GoSem.ClaimMapViews
import Derived.JoinedTies
import Derived.KernelRfl
namespace Go.Proofs.YtcnedkkcgdkioaaGreat
/- THE CELL 'sum', in the pinned program and in every row, IS THE sha256 OF THE DUMP (.gsa) THAT YtcnedkkcgdkioaaGreatProg.lean LOADS. Nothing in Lean hashes anything: it is a label: what it is worth is what the hold of that sum in a sandbox is worth. -/
noncomputable def Tryz.pinned : Pinned := { name := "ytcnedkkcgdkioaagreat", sum := "4f52e6ab5af6fb4aee51a4ebad8dbf049c9be5cb3687432d75756eb19e7f1e47", checked := Tryz.checked }
namespace Rows
def none {H : Type} : Left H := { results := [], args := [] }

/-- 'roundtablelaw28.ProtocolMaps': WHATEVER THE INPUT: true; the input reads as it did. -/
def protocolMapsSpec : ChangeSpec := { name := "protocolMaps", fn := fun _ => fun
  | [d] => { results := [.lit (.bool true)], args := [d] }
  | _ => none }
def protocolMapsRow : OpenClaim := { program := "ytcnedkkcgdkioaagreat", sum := "4f52e6ab5af6fb4aee51a4ebad8dbf049c9be5cb3687432d75756eb19e7f1e47", func := "roundtable/roundtablelaw28.ProtocolMaps", spec := "protocolMaps", unfollowed := true, recurses := true, plainKeys := false, apart := false }
def ProtocolMapsSaid : Prop := protocolMapsRow.holds Tryz.pinned (OpenSpec.ofChange protocolMapsSpec)

/-- ITS FALSE NEIGHBOUR: 'it returns false'. Refute it at one input. -/
def protocolMapsWrong : ChangeSpec := { name := "protocolMaps", fn := fun _ => fun
  | [d] => { results := [.lit (.bool false)], args := [d] }
  | _ => none }
def ProtocolMapsWrongFalsely : Prop := protocolMapsRow.holds Tryz.pinned (OpenSpec.ofChange protocolMapsWrong)

/-- 'roundtablelaw28.ProtocolFinds': WHATEVER THE INPUT: true; the input reads as it did. -/
def protocolFindsSpec : ChangeSpec := { name := "protocolFinds", fn := fun _ => fun
  | [d1, d2] => { results := [.lit (.bool true)], args := [d1, d2] }
  | _ => none }
def protocolFindsRow : OpenClaim := { program := "ytcnedkkcgdkioaagreat", sum := "4f52e6ab5af6fb4aee51a4ebad8dbf049c9be5cb3687432d75756eb19e7f1e47", func := "roundtable/roundtablelaw28.ProtocolFinds", spec := "protocolFinds", unfollowed := true, recurses := true, plainKeys := false, apart := false }
def ProtocolFindsSaid : Prop := protocolFindsRow.holds Tryz.pinned (OpenSpec.ofChange protocolFindsSpec)

/-- ITS FALSE NEIGHBOUR: 'it returns false'. Refute it at one input. -/
def protocolFindsWrong : ChangeSpec := { name := "protocolFinds", fn := fun _ => fun
  | [d1, d2] => { results := [.lit (.bool false)], args := [d1, d2] }
  | _ => none }
def ProtocolFindsWrongFalsely : Prop := protocolFindsRow.holds Tryz.pinned (OpenSpec.ofChange protocolFindsWrong)

/-- 'roundtablelaw28.ProtocolBuilds': WHATEVER THE INPUT: true; the input reads as it did. -/
def protocolBuildsSpec : ChangeSpec := { name := "protocolBuilds", fn := fun _ => fun
  | [d1, d2, d3] => { results := [.lit (.bool true)], args := [d1, d2, d3] }
  | _ => none }
def protocolBuildsRow : OpenClaim := { program := "ytcnedkkcgdkioaagreat", sum := "4f52e6ab5af6fb4aee51a4ebad8dbf049c9be5cb3687432d75756eb19e7f1e47", func := "roundtable/roundtablelaw28.ProtocolBuilds", spec := "protocolBuilds", unfollowed := true, recurses := true, plainKeys := false, apart := false }
def ProtocolBuildsSaid : Prop := protocolBuildsRow.holds Tryz.pinned (OpenSpec.ofChange protocolBuildsSpec)

/-- ITS FALSE NEIGHBOUR: 'it returns false'. Refute it at one input. -/
def protocolBuildsWrong : ChangeSpec := { name := "protocolBuilds", fn := fun _ => fun
  | [d1, d2, d3] => { results := [.lit (.bool false)], args := [d1, d2, d3] }
  | _ => none }
def ProtocolBuildsWrongFalsely : Prop := protocolBuildsRow.holds Tryz.pinned (OpenSpec.ofChange protocolBuildsWrong)

/-- 'roundtablelaw28.ProtocolShares': WHATEVER THE INPUT: true; the input reads as it did. -/
def protocolSharesSpec : ChangeSpec := { name := "protocolShares", fn := fun _ => fun
  | [d1, d2] => { results := [.lit (.bool true)], args := [d1, d2] }
  | _ => none }
def protocolSharesRow : OpenClaim := { program := "ytcnedkkcgdkioaagreat", sum := "4f52e6ab5af6fb4aee51a4ebad8dbf049c9be5cb3687432d75756eb19e7f1e47", func := "roundtable/roundtablelaw28.ProtocolShares", spec := "protocolShares", unfollowed := true, recurses := true, plainKeys := false, apart := false }
def ProtocolSharesSaid : Prop := protocolSharesRow.holds Tryz.pinned (OpenSpec.ofChange protocolSharesSpec)

/-- ITS FALSE NEIGHBOUR: 'it returns false'. Refute it at one input. -/
def protocolSharesWrong : ChangeSpec := { name := "protocolShares", fn := fun _ => fun
  | [d1, d2] => { results := [.lit (.bool false)], args := [d1, d2] }
  | _ => none }
def ProtocolSharesWrongFalsely : Prop := protocolSharesRow.holds Tryz.pinned (OpenSpec.ofChange protocolSharesWrong)

/-- 'roundtablelaw28.ProtocolTasks': WHATEVER THE INPUT: true; the input reads as it did. -/
def protocolTasksSpec : ChangeSpec := { name := "protocolTasks", fn := fun _ => fun
  | [d1, d2] => { results := [.lit (.bool true)], args := [d1, d2] }
  | _ => none }
def protocolTasksRow : OpenClaim := { program := "ytcnedkkcgdkioaagreat", sum := "4f52e6ab5af6fb4aee51a4ebad8dbf049c9be5cb3687432d75756eb19e7f1e47", func := "roundtable/roundtablelaw28.ProtocolTasks", spec := "protocolTasks", unfollowed := true, recurses := true, plainKeys := false, apart := false }
def ProtocolTasksSaid : Prop := protocolTasksRow.holds Tryz.pinned (OpenSpec.ofChange protocolTasksSpec)

/-- ITS FALSE NEIGHBOUR: 'it returns false'. Refute it at one input. -/
def protocolTasksWrong : ChangeSpec := { name := "protocolTasks", fn := fun _ => fun
  | [d1, d2] => { results := [.lit (.bool false)], args := [d1, d2] }
  | _ => none }
def ProtocolTasksWrongFalsely : Prop := protocolTasksRow.holds Tryz.pinned (OpenSpec.ofChange protocolTasksWrong)

/-- 'roundtablelaw28.ProtocolProjects': WHATEVER THE INPUT: true; the input reads as it did. -/
def protocolProjectsSpec : ChangeSpec := { name := "protocolProjects", fn := fun _ => fun
  | [d] => { results := [.lit (.bool true)], args := [d] }
  | _ => none }
def protocolProjectsRow : OpenClaim := { program := "ytcnedkkcgdkioaagreat", sum := "4f52e6ab5af6fb4aee51a4ebad8dbf049c9be5cb3687432d75756eb19e7f1e47", func := "roundtable/roundtablelaw28.ProtocolProjects", spec := "protocolProjects", unfollowed := true, recurses := true, plainKeys := false, apart := false }
def ProtocolProjectsSaid : Prop := protocolProjectsRow.holds Tryz.pinned (OpenSpec.ofChange protocolProjectsSpec)

/-- ITS FALSE NEIGHBOUR: 'it returns false'. Refute it at one input. -/
def protocolProjectsWrong : ChangeSpec := { name := "protocolProjects", fn := fun _ => fun
  | [d] => { results := [.lit (.bool false)], args := [d] }
  | _ => none }
def ProtocolProjectsWrongFalsely : Prop := protocolProjectsRow.holds Tryz.pinned (OpenSpec.ofChange protocolProjectsWrong)

/-- 'roundtablelaw28.ProtocolCovers': WHATEVER THE INPUT: true; the input reads as it did. -/
def protocolCoversSpec : ChangeSpec := { name := "protocolCovers", fn := fun _ => fun
  | [d] => { results := [.lit (.bool true)], args := [d] }
  | _ => none }
def protocolCoversRow : OpenClaim := { program := "ytcnedkkcgdkioaagreat", sum := "4f52e6ab5af6fb4aee51a4ebad8dbf049c9be5cb3687432d75756eb19e7f1e47", func := "roundtable/roundtablelaw28.ProtocolCovers", spec := "protocolCovers", unfollowed := true, recurses := true, plainKeys := false, apart := false }
def ProtocolCoversSaid : Prop := protocolCoversRow.holds Tryz.pinned (OpenSpec.ofChange protocolCoversSpec)

/-- ITS FALSE NEIGHBOUR: 'it returns false'. Refute it at one input. -/
def protocolCoversWrong : ChangeSpec := { name := "protocolCovers", fn := fun _ => fun
  | [d] => { results := [.lit (.bool false)], args := [d] }
  | _ => none }
def ProtocolCoversWrongFalsely : Prop := protocolCoversRow.holds Tryz.pinned (OpenSpec.ofChange protocolCoversWrong)

/- THE SECOND FORM. 'bulk': how many values and letters a reading holds, each counted each time it is reached (what is shared counts as often as it is met; a slice's spare places count too). A statement '..UptoSaid' is the law's where the arguments, and the package variables that the reading takes, are together of bulk at most 1048576: NARROWER than '..Said'. Prove '..Said' where nothing that the law and all that it calls make is longer than what came in: it says more and counts as full. Else prove '..UptoSaid'. A law counts once. -/
mutual
def uptoBulk {H : Type} : DataW H → Nat
  | .lit (.string bytes) => bytes.length + 1
  | .lit _ => 1
  | .nil => 1
  | .ptr d => uptoBulk d + 1
  | .slice elems spare => uptoBulkAll elems + uptoBulkAll spare + 1
  | .agg parts => uptoBulkAll parts + 1
  | .iface _ d => uptoBulk d + 1
  | .map entries => uptoBulkEntries entries + 1
  | .held _ => 1
def uptoBulkAll {H : Type} : List (DataW H) → Nat
  | [] => 0
  | d :: r => uptoBulk d + uptoBulkAll r
def uptoBulkEntries {H : Type} : List (Lit × DataW H) → Nat
  | [] => 0
  | x :: r => uptoBulkEntry x + uptoBulkEntries r
def uptoBulkEntry {H : Type} : Lit × DataW H → Nat
  | (.string bytes, d) => bytes.length + uptoBulk d + 1
  | (_, d) => uptoBulk d + 1
 end
def uptoSmall : (H : Type) → List (DataW H) → Bool := fun _ ds => decide (uptoBulkAll ds ≤ 1048576)
def OpenSpec.upto (s : _root_.Go.ChangeSpec) : _root_.Go.OpenSpec := { _root_.Go.OpenSpec.ofChange s with cond := some uptoSmall }

/-- 'roundtablelaw28.ProtocolMaps', WHERE WHAT IT READS IS OF BULK AT MOST 1048576: true; the input reads as it did. -/
def protocolMapsUptoRow : OpenClaim := { program := "ytcnedkkcgdkioaagreat", sum := "4f52e6ab5af6fb4aee51a4ebad8dbf049c9be5cb3687432d75756eb19e7f1e47", func := "roundtable/roundtablelaw28.ProtocolMaps", spec := "protocolMaps", unfollowed := true, recurses := true, plainKeys := false, apart := false, narrowed := true }
def ProtocolMapsUptoSaid : Prop := protocolMapsUptoRow.holds Tryz.pinned (OpenSpec.upto protocolMapsSpec)

/-- 'roundtablelaw28.ProtocolFinds', WHERE WHAT IT READS IS OF BULK AT MOST 1048576: true; the input reads as it did. -/
def protocolFindsUptoRow : OpenClaim := { program := "ytcnedkkcgdkioaagreat", sum := "4f52e6ab5af6fb4aee51a4ebad8dbf049c9be5cb3687432d75756eb19e7f1e47", func := "roundtable/roundtablelaw28.ProtocolFinds", spec := "protocolFinds", unfollowed := true, recurses := true, plainKeys := false, apart := false, narrowed := true }
def ProtocolFindsUptoSaid : Prop := protocolFindsUptoRow.holds Tryz.pinned (OpenSpec.upto protocolFindsSpec)

/-- 'roundtablelaw28.ProtocolBuilds', WHERE WHAT IT READS IS OF BULK AT MOST 1048576: true; the input reads as it did. -/
def protocolBuildsUptoRow : OpenClaim := { program := "ytcnedkkcgdkioaagreat", sum := "4f52e6ab5af6fb4aee51a4ebad8dbf049c9be5cb3687432d75756eb19e7f1e47", func := "roundtable/roundtablelaw28.ProtocolBuilds", spec := "protocolBuilds", unfollowed := true, recurses := true, plainKeys := false, apart := false, narrowed := true }
def ProtocolBuildsUptoSaid : Prop := protocolBuildsUptoRow.holds Tryz.pinned (OpenSpec.upto protocolBuildsSpec)

/-- 'roundtablelaw28.ProtocolShares', WHERE WHAT IT READS IS OF BULK AT MOST 1048576: true; the input reads as it did. -/
def protocolSharesUptoRow : OpenClaim := { program := "ytcnedkkcgdkioaagreat", sum := "4f52e6ab5af6fb4aee51a4ebad8dbf049c9be5cb3687432d75756eb19e7f1e47", func := "roundtable/roundtablelaw28.ProtocolShares", spec := "protocolShares", unfollowed := true, recurses := true, plainKeys := false, apart := false, narrowed := true }
def ProtocolSharesUptoSaid : Prop := protocolSharesUptoRow.holds Tryz.pinned (OpenSpec.upto protocolSharesSpec)

/-- 'roundtablelaw28.ProtocolTasks', WHERE WHAT IT READS IS OF BULK AT MOST 1048576: true; the input reads as it did. -/
def protocolTasksUptoRow : OpenClaim := { program := "ytcnedkkcgdkioaagreat", sum := "4f52e6ab5af6fb4aee51a4ebad8dbf049c9be5cb3687432d75756eb19e7f1e47", func := "roundtable/roundtablelaw28.ProtocolTasks", spec := "protocolTasks", unfollowed := true, recurses := true, plainKeys := false, apart := false, narrowed := true }
def ProtocolTasksUptoSaid : Prop := protocolTasksUptoRow.holds Tryz.pinned (OpenSpec.upto protocolTasksSpec)

/-- 'roundtablelaw28.ProtocolProjects', WHERE WHAT IT READS IS OF BULK AT MOST 1048576: true; the input reads as it did. -/
def protocolProjectsUptoRow : OpenClaim := { program := "ytcnedkkcgdkioaagreat", sum := "4f52e6ab5af6fb4aee51a4ebad8dbf049c9be5cb3687432d75756eb19e7f1e47", func := "roundtable/roundtablelaw28.ProtocolProjects", spec := "protocolProjects", unfollowed := true, recurses := true, plainKeys := false, apart := false, narrowed := true }
def ProtocolProjectsUptoSaid : Prop := protocolProjectsUptoRow.holds Tryz.pinned (OpenSpec.upto protocolProjectsSpec)

/-- 'roundtablelaw28.ProtocolCovers', WHERE WHAT IT READS IS OF BULK AT MOST 1048576: true; the input reads as it did. -/
def protocolCoversUptoRow : OpenClaim := { program := "ytcnedkkcgdkioaagreat", sum := "4f52e6ab5af6fb4aee51a4ebad8dbf049c9be5cb3687432d75756eb19e7f1e47", func := "roundtable/roundtablelaw28.ProtocolCovers", spec := "protocolCovers", unfollowed := true, recurses := true, plainKeys := false, apart := false, narrowed := true }
def ProtocolCoversUptoSaid : Prop := protocolCoversUptoRow.holds Tryz.pinned (OpenSpec.upto protocolCoversSpec)

end Rows
end Go.Proofs.YtcnedkkcgdkioaaGreat
