/- The statement DelegateIsBoundToItsKey holds: whatever the input, the call returns true and leaves its arguments as they were. No conditions. -/
import Derived.Test.YtamdgjgommejjaaGreatRows
import Derived.Test.YtamdgjgommejjaaGreatDB
import Derived.Test.YtamdgjgommejjaaGreatDBL
import Derived.WalkKit
import Derived.ProofKit
import Derived.OpenShut
namespace Go.Proofs.YtamdgjgommejjaaGreat.delegateIsBoundToItsKey
open Go.ChangeShapes Go.WideShapes Go.ChangeAt Go.RowKit
set_option linter.unusedVariables false
theorem own : ownKnob Tryz.prog.godebug = none := by kernel_rfl
theorem fine_params : Tryz.f3.params.toList.all (fine Tryz.prog 8) = true := by kernel_rfl

set_option maxRecDepth 100000 in
theorem lifted (os : Os) (started : os.Started) (H : Type) (enc : TypeId × Value → H) :
    ReturnsInHanded {} Tryz.checked os 3 .any (Rows.delegateIsBoundToItsKeySpec.pre6 enc Tryz.prog Tryz.f3 Rows.delegateIsBoundToItsKeyRow.domain false) (Rows.delegateIsBoundToItsKeySpec.post enc Tryz.prog Tryz.f3 false true false false) := by
  refine returnsInHanded_of_change (C := Tryz.checked) own started (by kernel_rfl) Tryz.func3
    (ChangeSpec.witness6 (enc := enc) (C := Tryz.checked) false ⟨#[], #[.int .i64 0, .int .i64 0], []⟩ 8 (by kernel_rfl) (by kernel_rfl) (by kernel_rfl) (by kernel_rfl)) ?_
  intro W base args ds gs before hval0 hW hcnd _
  have hval : ∀ (j : Nat) t v, Tryz.f3.params[j]? = some t → args[j]? = some v → Value.okWide Tryz.prog W .any base t v := hval0
  have hW' := hW
  obtain ⟨p, q, hA, hV, hbef, hfz, hnd⟩ := hW
  have hA1 : DataW.TrodAll enc Tryz.prog W 0 (fun _ => true) true Tryz.f3.params.toList args.toList ds p := hA
  rw [Tryz.params3] at hA1 hval
  obtain ⟨rfl, rfl⟩ := trodVars_none hV
  rw [List.append_nil] at hbef
  obtain ⟨v0, vs0, d0, ds0, p0, q0, hargs, rfl, rfl, h0, r0⟩ := trodAll_cons hA1
  obtain ⟨v1, vs1, d1, ds1, p1, q1, rfl, rfl, rfl, h1, r1⟩ := trodAll_cons r0
  obtain ⟨rfl, rfl, rfl⟩ := trodAll_nil r1
  obtain rfl : args = #[v0, v1] := by cases args; simp_all
  obtain ⟨a0, rfl, rfl, rfl, w0⟩ := open_int Tryz.underlying3 (hval 0 3 v0 rfl rfl) h0
  obtain ⟨a1, rfl, rfl, rfl, w1⟩ := open_int Tryz.underlying3 (hval 1 3 v1 rfl rfl) h1
  refine (db_law a0 w0 a1 w1 W).mono fun e W' ⟨he, hg⟩ => ?_
  subst he
  exact ⟨_, rfl, post_of_kept fine_params hW' hA hbef rfl rfl rfl (fun _ _ _ => (trodAll_cons_mk (shut_bool Tryz.underlying4 _) trodAll_mk0)) hg (ok_one (by kernel_rfl) rfl (okWide_bool_mk Tryz.underlying4 _))⟩

theorem k1 : Rows.delegateIsBoundToItsKeyRow.wf (OpenSpec.ofChange Rows.delegateIsBoundToItsKeySpec) = true := by kernel_rfl
theorem k2 : laidOutB Tryz.prog = true := by kernel_rfl
theorem k3 : mapsRowed Tryz.prog = true := by kernel_rfl
theorem k10 : (Rows.delegateIsBoundToItsKeyRow.inPlace == Tryz.prog.inPlace 3) = true := by kernel_rfl
theorem k11 : (Rows.delegateIsBoundToItsKeyRow.unfollowed == Tryz.prog.unfollowed 3) = true := by kernel_rfl
theorem k12 : (Rows.delegateIsBoundToItsKeyRow.recurses == Tryz.prog.recurses 3) = true := by kernel_rfl
theorem k13 : (Rows.delegateIsBoundToItsKeyRow.named == Tryz.prog.varsNamed 3) = true := by kernel_rfl
theorem closed : joinedFacts Tryz.prog 3 Tryz.f3 Rows.delegateIsBoundToItsKeySpec Rows.delegateIsBoundToItsKeyRow = true := by
  unfold joinedFacts
  rw [k1, k2, k3, k10, k11, k12, k13]
  kernel_rfl
theorem wraps : Tryz.f3.isWrapper Tryz.prog Rows.delegateIsBoundToItsKeyRow.wrapper Rows.delegateIsBoundToItsKeyRow.mainSum := by unfold Func.isWrapper; first | (rw [if_pos (by decide +kernel)]; kernel_rfl) | (rw [if_neg (by decide +kernel)]; exact ⟨rfl, rfl⟩)
theorem over : Rows.delegateIsBoundToItsKeyRow.holds Tryz.pinned (OpenSpec.ofChange Rows.delegateIsBoundToItsKeySpec) :=
  OpenClaim.holds_of_wide 3 Tryz.f3 rfl rfl rfl rfl rfl rfl rfl ⟨rfl, rfl, rfl, rfl, rfl⟩ rfl rfl rfl rfl rfl (by kernel_rfl) Tryz.func3 closed
    (of_decide_eq_true (by kernel_rfl)) wraps
    (fun os started H enc _ => lifted os started H enc)

/-- The statement. -/
theorem proved : Rows.DelegateIsBoundToItsKeySaid :=
  over
#print axioms proved
end Go.Proofs.YtamdgjgommejjaaGreat.delegateIsBoundToItsKey
