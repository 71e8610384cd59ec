/- The statement ProtocolSharesSaid: the law ProtocolShares returns true for every input and leaves its arguments as they were. No further condition. -/
import Derived.Test.YtcnedkkcgdkioaaGreatKSzj
import Derived.Test.YtcnedkkcgdkioaaGreatKSzk
import Derived.Test.YtcnedkkcgdkioaaGreatRows

namespace Go.Proofs.YtcnedkkcgdkioaaGreat.protocolShares
open Go.ChangeShapes Go.WideShapes Go.ChangeAt Go.RowKit Go.Deep

theorem own : ownKnob Tryz.prog.godebug = none := by kernel_rfl
set_option maxRecDepth 100000 in
theorem contract (H : Type) (enc : TypeId × Value → H) (W : World) (base : Nat) (args : Array Value) (ds gs : List (DataW H)) (before : List MemPlace)
    (hval : ∀ (j : Nat) t v, Tryz.f6.params[j]? = some t → args[j]? = some v → Value.okWide Tryz.prog W .any base t v)
    (hW : DataW.Whole enc Tryz.prog Tryz.f6.params.toList Rows.protocolSharesSpec.vars false W args.toList ds gs before)
    (hsz : (DataW.weightsEach Tryz.prog (Tryz.f6.params.toList ++ (OpenSpec.ofChange Rows.protocolSharesSpec).bare.plain.varTypes Tryz.prog) (ds ++ gs)).all (· ≤ reachBytes) = true) :
    Calls Tryz.prog 6 args W fun e W' => ∃ v, e = .returned v ∧ Rows.protocolSharesSpec.post enc Tryz.prog Tryz.f6 false true false false W args v W' := by
  have hW' := hW
  obtain ⟨p, q, hA0, hV, rfl, hfz, hnd⟩ := hW
  have hA : DataW.TrodAll enc Tryz.prog W 0 (fun _ => true) true Tryz.f6.params.toList args.toList ds p := hA0
  rw [Tryz.params6] at hA hval hsz
  obtain ⟨v0, vs0, d0, ds0, p0, q0, hargs0, hdd0, hpp0, h0, r0⟩ := trodAll_cons hA
  obtain ⟨v1, vs1, d1, ds1, p1, q1, hargs1, hdd1, hpp1, h1, r1⟩ := trodAll_cons r0
  obtain ⟨e1, e2, e3⟩ := trodAll_nil r1
  subst e1; subst e2; subst e3
  subst hargs1; subst hdd1; subst hpp1
  subst hdd0; subst hpp0
  obtain rfl : args = #[v0, v1] := by cases args; simp_all
  obtain ⟨rfl, rfl⟩ := trodVars_none hV
  have hw0 : ∀ n ∈ d0.weights Tryz.prog 29, n ≤ reachBytes := fun n hn => by simpa using List.all_eq_true.1 hsz n (DataW.weights_mem_each (j := 0) (t := 29) (d := d0) rfl rfl n hn)
  have hw1 : ∀ n ∈ d1.weights Tryz.prog 71, n ≤ reachBytes := fun n hn => by simpa using List.all_eq_true.1 hsz n (DataW.weights_mem_each (j := 1) (t := 71) (d := d1) rfl rfl n hn)
  obtain ⟨n0, i0, o0, an0, r0, cs0, ss0, hi0⟩ := prob_of_trod28 (hval 0 29 v0 rfl rfl) h0 hw0
  obtain ⟨x1, y1, hv1, hx1, hy1⟩ := pair_of_trod28 (hval 1 71 v1 rfl rfl) h1
  subst hv1
  refine (lawShares hi0 hx1 hy1).mono fun e W' ⟨he, hb⟩ => ?_
  subst he
  refine ⟨_, rfl, law_post (by kernel_rfl) 4 Tryz.underlying4 (by kernel_rfl) rfl (by kernel_rfl) ?_ hW' hb⟩
  intro ds hds
  match ds, hds with
  | [x0, x1], _ => rfl

/-- A world for the witness: the tables hold what their initialisers lay. -/
noncomputable def laidWorld (os : Os) : World :=
  { World.holding Tryz.prog os ⟨#[], #[], []⟩ with heap := (World.holding Tryz.prog os ⟨#[], #[], []⟩).heap }
theorem laid_met (os : Os) : laidMet Tryz.prog Rows.protocolSharesRow.laid ((laidWorld os).forCall (fun _ _ => 0) ⟨#[], #[.agg #[.int .i64 0, .int .i64 0, .int .i64 0, .slice none 0 0, .int .i64 0, .slice none 0 0, .int .i64 0], .agg #[.int .u8 0, .int .u8 0]], []⟩).memory :=
  laidMet_of_run' 8 (by kernel_rfl) (by kernel_rfl)
theorem reads (os : Os) {H : Type} (enc : TypeId × Value → H) : ∃ places, DataW.whole enc Tryz.prog ((laidWorld os).forCall (fun _ _ => 0) ⟨#[], #[.agg #[.int .i64 0, .int .i64 0, .int .i64 0, .slice none 0 0, .int .i64 0, .slice none 0 0, .int .i64 0], .agg #[.int .u8 0, .int .u8 0]], []⟩).memory Tryz.f6.params.toList Rows.protocolSharesSpec.vars false #[.agg #[.int .i64 0, .int .i64 0, .int .i64 0, .slice none 0 0, .int .i64 0, .slice none 0 0, .int .i64 0], .agg #[.int .u8 0, .int .u8 0]].toList 8 = some ([.agg [.agg [.lit (.int .i64 0), .lit (.int .i64 0), .lit (.int .i64 0), .nil], .agg [.lit (.int .i64 0), .nil], .lit (.int .i64 0)], .agg [.lit (.int .u8 0), .lit (.int .u8 0)]], [], places) :=
  ⟨[], by kernel_rfl⟩

set_option maxRecDepth 100000 in
theorem lifted (os : Os) (started : os.Started) (H : Type) (enc : TypeId × Value → H) (F : Stop.Interp) :
    ReturnsInHanded {} Tryz.checked os 6 .any ((OpenSpec.ofChange Rows.protocolSharesSpec).preRow enc Tryz.prog Tryz.f6 Rows.protocolSharesRow.domain false Rows.protocolSharesRow.laid) (((OpenSpec.ofChange Rows.protocolSharesSpec).at F).post enc Tryz.prog Tryz.f6 false true false false) := by
  obtain ⟨places, hx⟩ := reads os enc
  refine returnsInHanded_of_row (C := Tryz.checked) (s := OpenSpec.ofChange Rows.protocolSharesSpec) own started (by kernel_rfl) Tryz.func6
    (witness_row_at (enc := enc) (C := Tryz.checked) false (laidWorld os) #[.agg #[.int .i64 0, .int .i64 0, .int .i64 0, .slice none 0 0, .int .i64 0, .slice none 0 0, .int .i64 0], .agg #[.int .u8 0, .int .u8 0]] rfl (by kernel_rfl) (by kernel_rfl) (by kernel_rfl)
      (OpenSpec.preRow_of_cond 8 hx (by kernel_rfl) (fun k hk => by cases hk) (by kernel_rfl) (laid_met os))) ?_
  intro W base args ds gs before hval hW _ _ hsz _ _ _
  exact contract H enc W base args ds gs before hval hW hsz

theorem kP : (Rows.protocolSharesRow.inPlace == Tryz.pinned.checked.prog.inPlace 6) = true := by kernel_rfl
theorem kU : (Rows.protocolSharesRow.unfollowed == Tryz.pinned.checked.prog.unfollowed 6) = true := by kernel_rfl
theorem kR : (Rows.protocolSharesRow.recurses == Tryz.pinned.checked.prog.recurses 6) = true := by kernel_rfl
theorem kN : (Rows.protocolSharesRow.named == Tryz.pinned.checked.prog.varsNamed 6) = true := by kernel_rfl
theorem closed : joinedFacts Tryz.pinned.checked.prog 6 Tryz.f6 (OpenSpec.ofChange Rows.protocolSharesSpec).bare Rows.protocolSharesRow = true := by
  unfold joinedFacts
  rw [kP, kU, kR, kN]
  kernel_rfl
theorem said : Rows.ProtocolSharesSaid :=
  OpenClaim.holds_of_cond 6 Tryz.f6 rfl rfl rfl rfl rfl rfl rfl ⟨rfl, rfl, rfl, rfl, rfl⟩ rfl rfl rfl rfl rfl (by kernel_rfl) Tryz.func6 closed
    (of_decide_eq_true (by kernel_rfl)) (by unfold Func.isWrapper; first | (rw [if_pos (by decide +kernel)]; kernel_rfl) | (rw [if_neg (by decide +kernel)]; exact ⟨rfl, rfl⟩))
    (fun os started H enc _ F => by rw [OpenClaim.pre_eq_preRow]; exact lifted os started H enc F)

end Go.Proofs.YtcnedkkcgdkioaaGreat.protocolShares
namespace Go.Proofs.YtcnedkkcgdkioaaGreat
theorem protocolShares_said : Rows.ProtocolSharesSaid := protocolShares.said
#print axioms protocolShares_said
end Go.Proofs.YtcnedkkcgdkioaaGreat
