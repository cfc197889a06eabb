/- The statement TopKeysAndHashes holds: whatever the input, the call returns true and leaves its arguments as they were. No conditions. -/
import Derived.Test.YtpdphpekgphniaaRows
import Derived.Test.YtpdphpekgphniaaTKO
import Derived.Test.YtpdphpekgphniaaTKT
import Derived.WalkKit
import Derived.ProofKit
import Derived.OpenShut
namespace Go.Proofs.Ytpdphpekgphniaa.topKeysAndHashes
open Go.ChangeShapes Go.WideShapes Go.ChangeAt Go.RowKit
set_option linter.unusedVariables false
theorem own : ownKnob Try.prog.godebug = none := by kernel_rfl
theorem fine_params : Try.f3.params.toList.all (fine Try.prog 8) = true := by kernel_rfl

set_option maxRecDepth 100000 in
theorem lifted (os : Os) (started : os.Started) (H : Type) (enc : TypeId × Value → H) :
    ReturnsInHanded {} Try.checked os 3 .any (Rows.topKeysAndHashesSpec.pre6 enc Try.prog Try.f3 Rows.topKeysAndHashesRow.domain false) (Rows.topKeysAndHashesSpec.post enc Try.prog Try.f3 false true false false) := by
  refine returnsInHanded_of_change (C := Try.checked) own started (by kernel_rfl) Try.func3
    (ChangeSpec.witness6 (enc := enc) (C := Try.checked) false ⟨#[], #[.int .i64 0, .int .i64 0, .slice none 0 0], []⟩ 8 (by kernel_rfl) (by kernel_rfl) (by kernel_rfl) (by kernel_rfl)) ?_
  intro W base args ds gs before hval0 hW hcnd _
  have hval : ∀ (j : Nat) t v, Try.f3.params[j]? = some t → args[j]? = some v → Value.okWide Try.prog W .any base t v := hval0
  have hW' := hW
  obtain ⟨p, q, hA, hV, hbef, hfz, hnd⟩ := hW
  have hA1 : DataW.TrodAll enc Try.prog W 0 (fun _ => true) true Try.f3.params.toList args.toList ds p := hA
  rw [Try.params3] at hA1 hval
  obtain ⟨rfl, rfl⟩ := trodVars_none hV
  rw [List.append_nil] at hbef
  obtain ⟨v0, vs0, d0, ds0, p0, q0, hargs, rfl, rfl, h0, r0⟩ := trodAll_cons hA1
  obtain ⟨v1, vs1, d1, ds1, p1, q1, rfl, rfl, rfl, h1, r1⟩ := trodAll_cons r0
  obtain ⟨v2, vs2, d2, ds2, p2, q2, rfl, rfl, rfl, h2, r2⟩ := trodAll_cons r1
  obtain ⟨rfl, rfl, rfl⟩ := trodAll_nil r2
  obtain rfl : args = #[v0, v1, v2] := by cases args; simp_all
  obtain ⟨a0, rfl, rfl, rfl, w0⟩ := open_int Try.underlying3 (hval 0 3 v0 rfl rfl) h0
  obtain ⟨a1, rfl, rfl, rfl, w1⟩ := open_int Try.underlying3 (hval 1 3 v1 rfl rfl) h1
  obtain ⟨l2, s2⟩ := open_bytes (hval 2 22 v2 rfl rfl) h2
  refine (tk_top a0 w0 a1 w1 W.heap.size v2 l2 W s2 (Nat.le_refl _)).mono fun e W' ⟨he, hg⟩ => ?_
  subst he
  exact ⟨_, rfl, post_of_kept fine_params hW' hA hbef rfl rfl rfl (fun _ _ _ => (trodAll_cons_mk (shut_bool Try.underlying4 _) trodAll_mk0)) hg (ok_one (by kernel_rfl) rfl (okWide_bool_mk Try.underlying4 _))⟩

theorem k1 : Rows.topKeysAndHashesRow.wf (OpenSpec.ofChange Rows.topKeysAndHashesSpec) = true := by kernel_rfl
theorem k2 : laidOutB Try.prog = true := by kernel_rfl
theorem k3 : mapsRowed Try.prog = true := by kernel_rfl
theorem k10 : (Rows.topKeysAndHashesRow.inPlace == Try.prog.inPlace 3) = true := by kernel_rfl
theorem k11 : (Rows.topKeysAndHashesRow.unfollowed == Try.prog.unfollowed 3) = true := by kernel_rfl
theorem k12 : (Rows.topKeysAndHashesRow.recurses == Try.prog.recurses 3) = true := by kernel_rfl
theorem k13 : (Rows.topKeysAndHashesRow.named == Try.prog.varsNamed 3) = true := by kernel_rfl
theorem closed : joinedFacts Try.prog 3 Try.f3 Rows.topKeysAndHashesSpec Rows.topKeysAndHashesRow = true := by
  unfold joinedFacts
  rw [k1, k2, k3, k10, k11, k12, k13]
  kernel_rfl
theorem wraps : Try.f3.isWrapper Try.prog Rows.topKeysAndHashesRow.wrapper Rows.topKeysAndHashesRow.mainSum := by unfold Func.isWrapper; first | (rw [if_pos (by decide +kernel)]; kernel_rfl) | (rw [if_neg (by decide +kernel)]; exact ⟨rfl, rfl⟩)
theorem over : Rows.topKeysAndHashesRow.holds Try.pinned (OpenSpec.ofChange Rows.topKeysAndHashesSpec) :=
  OpenClaim.holds_of_wide 3 Try.f3 rfl rfl rfl rfl rfl rfl rfl ⟨rfl, rfl, rfl, rfl, rfl⟩ rfl rfl rfl rfl rfl (by kernel_rfl) Try.func3 closed
    (of_decide_eq_true (by kernel_rfl)) wraps
    (fun os started H enc _ => lifted os started H enc)

/-- The statement. -/
theorem proved : Rows.TopKeysAndHashesSaid :=
  over
#print axioms proved
end Go.Proofs.Ytpdphpekgphniaa.topKeysAndHashes
