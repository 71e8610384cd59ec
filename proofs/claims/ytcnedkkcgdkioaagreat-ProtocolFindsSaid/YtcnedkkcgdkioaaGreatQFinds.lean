/- The statement ProtocolFindsSaid: the law ProtocolFinds returns true for every input and leaves its arguments as they were. No further condition. -/
import Derived.Test.YtcnedkkcgdkioaaGreatKBzq
import Derived.Test.YtcnedkkcgdkioaaGreatKBzo
import Derived.Test.YtcnedkkcgdkioaaGreatRows

namespace Go.Proofs.YtcnedkkcgdkioaaGreat.protocolFinds
open Go.ChangeShapes Go.WideShapes Go.ChangeAt Go.RowKit Go.Deep

theorem own : ownKnob Tryz.prog.godebug = none := by kernel_rfl
set_option maxRecDepth 100000 in
theorem contract (H : Type) (enc : TypeId × Value → H) (W : World) (base : Nat) (args : Array Value) (ds gs : List (DataW H)) (before : List MemPlace)
    (hval : ∀ (j : Nat) t v, Tryz.f4.params[j]? = some t → args[j]? = some v → Value.okWide Tryz.prog W .any base t v)
    (hW : DataW.Whole enc Tryz.prog Tryz.f4.params.toList Rows.protocolFindsSpec.vars false W args.toList ds gs before)
    (hsz : (DataW.weightsEach Tryz.prog (Tryz.f4.params.toList ++ (OpenSpec.ofChange Rows.protocolFindsSpec).bare.plain.varTypes Tryz.prog) (ds ++ gs)).all (· ≤ reachBytes) = true) :
    Calls Tryz.prog 4 args W fun e W' => ∃ v, e = .returned v ∧ Rows.protocolFindsSpec.post enc Tryz.prog Tryz.f4 false true false false W args v W' := by
  have hW' := hW
  obtain ⟨p, q, hA0, hV, rfl, hfz, hnd⟩ := hW
  have hA : DataW.TrodAll enc Tryz.prog W 0 (fun _ => true) true Tryz.f4.params.toList args.toList ds p := hA0
  rw [Tryz.params4] at hA hval hsz
  obtain ⟨v0, vs0, d0, ds0, p0, q0, hargs0, hdd0, hpp0, h0, r0⟩ := trodAll_cons hA
  obtain ⟨v1, vs1, d1, ds1, p1, q1, hargs1, hdd1, hpp1, h1, r1⟩ := trodAll_cons r0
  obtain ⟨e1, e2, e3⟩ := trodAll_nil r1
  subst e1; subst e2; subst e3
  subst hargs1; subst hdd1; subst hpp1
  subst hdd0; subst hpp0
  obtain rfl : args = #[v0, v1] := by cases args; simp_all
  obtain ⟨rfl, rfl⟩ := trodVars_none hV
  have hw0 : ∀ n ∈ d0.weights Tryz.prog 35, n ≤ reachBytes := fun n hn => by simpa using List.all_eq_true.1 hsz n (DataW.weights_mem_each (j := 0) (t := 35) (d := d0) rfl rfl n hn)
  have hw1 : ∀ n ∈ d1.weights Tryz.prog 38, n ≤ reachBytes := fun n hn => by simpa using List.all_eq_true.1 hsz n (DataW.weights_mem_each (j := 1) (t := 38) (d := d1) rfl rfl n hn)
  obtain ⟨sy0, hi0⟩ := UV (hval 0 35 v0 rfl rfl) h0 hw0
  obtain ⟨a1, l1, c1, hv1⟩ := okWide_slice Tryz.underlying38 (hval 1 38 v1 rfl rfl)
  subst hv1
  obtain ⟨fu1, t1⟩ := h1
  obtain ⟨xs1, hi1⟩ := uS t1 hw1
  refine (mR hi0 hi1).mono fun e W' ⟨he, hb⟩ => ?_
  subst he
  refine ⟨_, rfl, TH (by kernel_rfl) 4 Tryz.underlying4 (by kernel_rfl) rfl (by kernel_rfl) ?_ hW' hb⟩
  intro ds hds
  match ds, hds with
  | [x0, x1], _ => rfl

/-- A world for the witness: the tables hold what their initialisers lay. -/
noncomputable def laidWorld (os : Os) : World :=
  { World.holding Tryz.prog os ⟨#[], #[], []⟩ with heap := (World.holding Tryz.prog os ⟨#[], #[], []⟩).heap }
theorem laid_met (os : Os) : laidMet Tryz.prog Rows.protocolFindsRow.laid ((laidWorld os).forCall (fun _ _ => 0) ⟨#[], #[.agg #[.int .i64 0, .int .i64 0, .int .i64 0, .slice none 0 0, .int .i64 0, .slice none 0 0, .int .i64 0, .int .i64 0, .slice none 0 0, .slice none 0 0], .slice none 0 0], []⟩).memory :=
  laidMet_of_run' 8 (by kernel_rfl) (by kernel_rfl)
theorem reads (os : Os) {H : Type} (enc : TypeId × Value → H) : ∃ places, DataW.whole enc Tryz.prog ((laidWorld os).forCall (fun _ _ => 0) ⟨#[], #[.agg #[.int .i64 0, .int .i64 0, .int .i64 0, .slice none 0 0, .int .i64 0, .slice none 0 0, .int .i64 0, .int .i64 0, .slice none 0 0, .slice none 0 0], .slice none 0 0], []⟩).memory Tryz.f4.params.toList Rows.protocolFindsSpec.vars false #[.agg #[.int .i64 0, .int .i64 0, .int .i64 0, .slice none 0 0, .int .i64 0, .slice none 0 0, .int .i64 0, .int .i64 0, .slice none 0 0, .slice none 0 0], .slice none 0 0].toList 8 = some ([.agg [.agg [.agg [.lit (.int .i64 0), .lit (.int .i64 0), .lit (.int .i64 0), .nil], .agg [.lit (.int .i64 0), .nil], .lit (.int .i64 0)], .agg [.lit (.int .i64 0), .nil], .nil], .nil], [], places) :=
  ⟨[], by kernel_rfl⟩

set_option maxRecDepth 100000 in
theorem lifted (os : Os) (started : os.Started) (H : Type) (enc : TypeId × Value → H) (F : Stop.Interp) :
    ReturnsInHanded {} Tryz.checked os 4 .any ((OpenSpec.ofChange Rows.protocolFindsSpec).preRow enc Tryz.prog Tryz.f4 Rows.protocolFindsRow.domain false Rows.protocolFindsRow.laid) (((OpenSpec.ofChange Rows.protocolFindsSpec).at F).post enc Tryz.prog Tryz.f4 false true false false) := by
  obtain ⟨places, hx⟩ := reads os enc
  refine returnsInHanded_of_row (C := Tryz.checked) (s := OpenSpec.ofChange Rows.protocolFindsSpec) own started (by kernel_rfl) Tryz.func4
    (witness_row_at (enc := enc) (C := Tryz.checked) false (laidWorld os) #[.agg #[.int .i64 0, .int .i64 0, .int .i64 0, .slice none 0 0, .int .i64 0, .slice none 0 0, .int .i64 0, .int .i64 0, .slice none 0 0, .slice none 0 0], .slice none 0 0] rfl (by kernel_rfl) (by kernel_rfl) (by kernel_rfl)
      (OpenSpec.preRow_of_cond 8 hx (by kernel_rfl) (fun k hk => by cases hk) (by kernel_rfl) (laid_met os))) ?_
  intro W base args ds gs before hval hW _ _ hsz _ _ _
  exact contract H enc W base args ds gs before hval hW hsz

theorem kP : (Rows.protocolFindsRow.inPlace == Tryz.pinned.checked.prog.inPlace 4) = true := by kernel_rfl
theorem kU : (Rows.protocolFindsRow.unfollowed == Tryz.pinned.checked.prog.unfollowed 4) = true := by kernel_rfl
theorem kR : (Rows.protocolFindsRow.recurses == Tryz.pinned.checked.prog.recurses 4) = true := by kernel_rfl
theorem kN : (Rows.protocolFindsRow.named == Tryz.pinned.checked.prog.varsNamed 4) = true := by kernel_rfl
theorem closed : joinedFacts Tryz.pinned.checked.prog 4 Tryz.f4 (OpenSpec.ofChange Rows.protocolFindsSpec).bare Rows.protocolFindsRow = true := by
  unfold joinedFacts
  rw [kP, kU, kR, kN]
  kernel_rfl
theorem said : Rows.ProtocolFindsSaid :=
  OpenClaim.holds_of_cond 4 Tryz.f4 rfl rfl rfl rfl rfl rfl rfl ⟨rfl, rfl, rfl, rfl, rfl⟩ rfl rfl rfl rfl rfl (by kernel_rfl) Tryz.func4 closed
    (of_decide_eq_true (by kernel_rfl)) (by unfold Func.isWrapper; first | (rw [if_pos (by decide +kernel)]; kernel_rfl) | (rw [if_neg (by decide +kernel)]; exact ⟨rfl, rfl⟩))
    (fun os started H enc _ F => by rw [OpenClaim.pre_eq_preRow]; exact lifted os started H enc F)

end Go.Proofs.YtcnedkkcgdkioaaGreat.protocolFinds
namespace Go.Proofs.YtcnedkkcgdkioaaGreat
theorem protocolFinds_said : Rows.ProtocolFindsSaid := protocolFinds.said
#print axioms protocolFinds_said
end Go.Proofs.YtcnedkkcgdkioaaGreat
