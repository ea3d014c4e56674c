/- The law FnExactAsLock answers true whatever its arguments, and leaves them as they were. No condition. -/
import Derived.Test.YtfafepmjpphfeaaGreatRows
import Derived.Test.YtfafepmjpphfeaaGreatUh
import Derived.Test.YtfafepmjpphfeaaGreatPLawAsLock
import Derived.ProofKit
import Derived.OpenShut
import Derived.ChangeOld
import Derived.Below
import Derived.SizedLaws
set_option linter.unusedVariables false
namespace Go.Proofs.YtfafepmjpphfeaaGreat.fnExactAsLock
open Go.ChangeShapes Go.WideShapes Go.ChangeAt Go.RowKit Go.Tev Plain
theorem own : ownKnob Tryz.prog.godebug = none := by kernel_rfl
theorem laidOut : laidOutB Tryz.prog = true := by kernel_rfl
set_option maxRecDepth 100000 in
theorem lifted (os : Os) (started : os.Started) (H : Type) (enc : TypeId × Value → H) :
    ReturnsInHanded {} Tryz.checked os 3 .any (Rows.fnExactAsLockSpec.pre6 enc Tryz.prog Tryz.f3 Rows.fnExactAsLockRow.domain false) (Rows.fnExactAsLockSpec.post enc Tryz.prog Tryz.f3 false true false false) := by
  refine returnsInHanded_of_change_sized (C := Tryz.checked) own started (by kernel_rfl) Tryz.func3
    (ChangeSpec.witness6 (enc := enc) (C := Tryz.checked) false ⟨#[], #[.agg #[.slice none 0 0, .slice none 0 0, .slice none 0 0, .int .i64 0, .int .i64 0, .int .i64 0, .int .i64 0, .int .i64 0, .bool false, .bool false, .bool false, .bool false, .bool false, .int .i64 0, .int .i64 0, .bool false, .int .i64 0, .bool false, .int .i64 0, .int .i64 0, .slice none 0 0, .int .i64 0, .int .i64 0, .int .i64 0, .int .i64 0, .int .i64 0, .bool false, .slice none 0 0, .slice none 0 0, .int .i64 0, .slice none 0 0, .slice none 0 0, .int .i64 0, .int .i64 0, .int .i64 0, .int .i64 0, .int .i64 0, .bool false, .bool false, .int .i64 0, .slice none 0 0, .slice none 0 0]], []⟩ 12 (by kernel_rfl) (by kernel_rfl) (by kernel_rfl) (by kernel_rfl)) ?_
  intro W base args ds gs before hval hW _ _ _
  have hW' := hW
  obtain ⟨p, q, hA, hV, rfl, _, _⟩ := hW
  obtain ⟨rfl, rfl⟩ := trodVars_none hV
  have hT : tysT Tryz.prog Tryz.f3.params.toList = some i3 := by kernel_rfl
  have hP : plains i3 = true := by kernel_rfl
  have hS : staysB Tryz.prog Tryz.f3.params.toList = true := by kernel_rfl
  obtain ⟨y, hy, hw⟩ := open_all hT hP (fun j t v h1 h2 => hval j t v (by simpa using h1) (by simpa using h2)) hA
  refine (law_calls k3 hy (trodAll_lt hA) (plain3 y hw)).mono fun e W' ⟨he, bel⟩ => ?_
  subst he
  have hB := trodAll_stays laidOut bel hS hA
  have hA2 := hA
  obtain ⟨v0, vs0, d0, ds0, p0, q0, hargs0, rfl, rfl, h0, r0⟩ := trodAll_cons hA2
  obtain ⟨_, rfl, rfl⟩ := trodAll_nil r0
  exact ⟨_, rfl, _, _, _, [], _, [], hW', trodAll_mk1 (shut_bool (by kernel_rfl) _), hB, rfl, bel.frame _, fun h => by cases h⟩
theorem over : Rows.fnExactAsLockRow.holds Tryz.pinned (OpenSpec.ofChange Rows.fnExactAsLockSpec) :=
  OpenClaim.holds_of_wide 3 Tryz.f3 rfl rfl rfl rfl rfl rfl rfl ⟨rfl, rfl, rfl, rfl, rfl⟩ rfl rfl rfl rfl rfl (by kernel_rfl) Tryz.func3 (by kernel_rfl)
    (of_decide_eq_true (by kernel_rfl)) (by unfold Func.isWrapper; first | (rw [if_pos (by decide +kernel)]; kernel_rfl) | (rw [if_neg (by decide +kernel)]; exact ⟨rfl, rfl⟩))
    (fun os started H enc _ => lifted os started H enc)
end Go.Proofs.YtfafepmjpphfeaaGreat.fnExactAsLock
namespace Go.Proofs.YtfafepmjpphfeaaGreat
/-- The row, under a short name, for the claim. -/
theorem fnExactAsLock_holds : Rows.FnExactAsLockSaid := fnExactAsLock.over
#print axioms fnExactAsLock_holds
end Go.Proofs.YtfafepmjpphfeaaGreat
