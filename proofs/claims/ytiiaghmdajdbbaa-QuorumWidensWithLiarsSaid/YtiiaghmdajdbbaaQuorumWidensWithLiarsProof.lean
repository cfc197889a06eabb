/- The statement QuorumWidensWithLiars holds: whatever the input, the call returns true and leaves its arguments as they were. No conditions. -/
import Derived.Test.YtiiaghmdajdbbaaRows
import Derived.Test.YtiiaghmdajdbbaaKeep
import Derived.Test.YtiiaghmdajdbbaaQ4
import Derived.Test.YtiiaghmdajdbbaaQ8
import Derived.WalkKit
import Derived.ProofKit
import Derived.OpenShut
namespace Go.Proofs.Ytiiaghmdajdbbaa.quorumWidensWithLiars
open Go.ChangeShapes Go.WideShapes Go.ChangeAt Go.RowKit
set_option linter.unusedVariables false
theorem own : ownKnob Try.prog.godebug = none := by kernel_rfl
theorem fine_params : Try.f7.params.toList.all (fine Try.prog 8) = true := by kernel_rfl

set_option maxRecDepth 100000 in
theorem lifted (os : Os) (started : os.Started) (H : Type) (enc : TypeId × Value → H) :
    ReturnsInHanded {} Try.checked os 7 .any (Rows.quorumWidensWithLiarsSpec.pre6 enc Try.prog Try.f7 Rows.quorumWidensWithLiarsRow.domain false) (Rows.quorumWidensWithLiarsSpec.post enc Try.prog Try.f7 false true false false) := by
  refine returnsInHanded_of_change (C := Try.checked) own started (by kernel_rfl) Try.func7
    (ChangeSpec.witness6 (enc := enc) (C := Try.checked) false ⟨#[], #[.slice none 0 0, .slice none 0 0, .int .u8 0], []⟩ 8 (by kernel_rfl) (by kernel_rfl) (by kernel_rfl) (by kernel_rfl)) ?_
  intro W base args ds gs before hval0 hW hcnd _
  have hval : ∀ (j : Nat) t v, Try.f7.params[j]? = some t → args[j]? = some v → Value.okWide Try.prog W .any base t v := hval0
  have hW' := hW
  obtain ⟨p, q, hA, hV, hbef, hfz, hnd⟩ := hW
  have hA1 : DataW.TrodAll enc Try.prog W 0 (fun _ => true) true Try.f7.params.toList args.toList ds p := hA
  rw [Try.params7] at hA1 hval
  obtain ⟨rfl, rfl⟩ := trodVars_none hV
  rw [List.append_nil] at hbef
  obtain ⟨v0, vs0, d0, ds0, p0, q0, hargs, rfl, rfl, h0, r0⟩ := trodAll_cons hA1
  obtain ⟨v1, vs1, d1, ds1, p1, q1, rfl, rfl, rfl, h1, r1⟩ := trodAll_cons r0
  obtain ⟨v2, vs2, d2, ds2, p2, q2, rfl, rfl, rfl, h2, r2⟩ := trodAll_cons r1
  obtain ⟨rfl, rfl, rfl⟩ := trodAll_nil r2
  obtain rfl : args = #[v0, v1, v2] := by cases args; simp_all
  obtain ⟨l0, s0⟩ := open_intsT (hval 0 22 v0 rfl rfl) h0
  obtain ⟨l1, s1⟩ := open_intsT (hval 1 22 v1 rfl rfl) h1
  obtain ⟨a2, rfl, rfl, rfl, w2⟩ := open_int Try.underlying5 (hval 2 5 v2 rfl rfl) h2
  refine (widens_law W.heap.size v0 l0 W s0 (Nat.le_refl _) W.heap.size v1 l1 s1 (Nat.le_refl _) a2 w2).mono fun e W' ⟨he, hg⟩ => ?_
  subst he
  exact ⟨_, rfl, post_of_kept fine_params hW' hA hbef rfl rfl rfl (fun _ _ _ => (trodAll_cons_mk (shut_bool Try.underlying4 _) trodAll_mk0)) hg (ok_one (by kernel_rfl) rfl (okWide_bool_mk Try.underlying4 _))⟩

theorem over : Rows.quorumWidensWithLiarsRow.holds Try.pinned (OpenSpec.ofChange Rows.quorumWidensWithLiarsSpec) :=
  OpenClaim.holds_of_wide 7 Try.f7 rfl rfl rfl rfl rfl rfl rfl ⟨rfl, rfl, rfl, rfl, rfl⟩ rfl rfl rfl rfl rfl (by kernel_rfl) Try.func7 (by kernel_rfl)
    (of_decide_eq_true (by kernel_rfl)) (by unfold Func.isWrapper; first | (rw [if_pos (by decide +kernel)]; kernel_rfl) | (rw [if_neg (by decide +kernel)]; exact ⟨rfl, rfl⟩))
    (fun os started H enc _ => lifted os started H enc)

/-- The statement. -/
theorem proved : Rows.QuorumWidensWithLiarsSaid :=
  over
#print axioms proved
end Go.Proofs.Ytiiaghmdajdbbaa.quorumWidensWithLiars
