/- The laws on what is seen answer true. No condition. -/
import Derived.Test.YtmgdknbellgpnaaPObs
set_option linter.unusedVariables false
set_option linter.unusedSimpArgs false
namespace Go.Proofs.Ytmgdknbellgpnaa.Plain
open Go Go.Tev

theorem plain6 : ∀ y : PTup i6, wfTs i6 y → ∃ b, r6 y = some ((true, ()), b) := by
  rintro ⟨a, b, _⟩ ⟨wa, wb, _⟩
  refine ⟨(), ?_⟩
  unfold r6 m6
  obtain ⟨m, e1, h1, k1⟩ := szObs_ok a 1048576 (by omega) (by omega) wa
  simp only [e1, Option.bind_some]
  by_cases hm : m < 0
  · rw [ltI_t hm]; rfl
  rw [ltI_f hm, cond_false]
  obtain ⟨n, e2, h2, k2⟩ := szObs_ok b m (by omega) (by omega) wb
  simp only [e2, Option.bind_some]
  by_cases hn : n < 0
  · rw [ltI_t hn]; rfl
  rw [ltI_f hn, cond_false]
  have oa := k1 (by omega)
  have ob := k2 (by omega)
  simp only [toObs_ok _ oa, toObs_ok _ ob, Option.bind_some, specSame_ok a b oa ob, implSame_ok a b oa, eqObs_ok _ _ oa, eqObs_ok _ _ ob, obsEq_self, beq_self_eq_true, Bool.not_true, cond_false]

theorem plain7 : ∀ y : PTup i7, wfTs i7 y → ∃ b, r7 y = some ((true, ()), b) := by
  rintro ⟨a, b, _⟩ ⟨wa, wb, _⟩
  refine ⟨(), ?_⟩
  unfold r7 m7
  obtain ⟨m, e1, h1, k1⟩ := szObs_ok a 1048576 (by omega) (by omega) wa
  simp only [e1, Option.bind_some]
  by_cases hm : m < 0
  · rw [ltI_t hm]; rfl
  rw [ltI_f hm, cond_false]
  obtain ⟨n, e2, h2, k2⟩ := szObs_ok b m (by omega) (by omega) wb
  simp only [e2, Option.bind_some]
  by_cases hn : n < 0
  · rw [ltI_t hn]; rfl
  rw [ltI_f hn, cond_false]
  have oa := k1 (by omega)
  have ob := k2 (by omega)
  simp only [toObs_ok _ oa, toObs_ok _ ob, Option.bind_some, specBegins_ok a b oa, implBegins_ok a b oa, eqObs_ok _ _ oa, eqObs_ok _ _ ob, obsEq_self, beq_self_eq_true, Bool.not_true, cond_false]

end Go.Proofs.Ytmgdknbellgpnaa.Plain
