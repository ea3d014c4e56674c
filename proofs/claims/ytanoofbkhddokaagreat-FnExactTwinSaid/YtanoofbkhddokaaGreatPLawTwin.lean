/- A law answers true. No condition. -/
import Derived.Test.YtanoofbkhddokaaGreatPG
set_option linter.unusedVariables false
set_option linter.unusedSimpArgs false
namespace Go.Proofs.YtanoofbkhddokaaGreat.Plain
open Go Go.Tev

theorem plain6 : ∀ y : PTup i6, wfTs i6 y → ∃ b, r6 y = some ((true, ()), b) := by
  rintro ⟨s, _⟩ ⟨ws, _⟩
  refine ⟨(), ?_⟩
  unfold r6 m6
  obtain ⟨m, e1, h1, k1⟩ := szSplit_ok s 1048576 (by omega) (by omega) ws
  refine bind_step e1 ?_
  by_cases hm : m < 0
  · rw [ltI_t hm]; rfl
  rw [ltI_f hm, cond_false]
  obtain ⟨os, hr⟩ := k1 (by omega)
  have hr : (spM s).reads.length ≤ 1048576 := hr
  have hs : splitOkS (spM s).t := os
  have hb0 := enSplit_b os
  have o1 := twinA_S (spM s)
  have kS := specTwin_ok (spM s) hs
  have kI := implTwin_ok (spM s) hs
  generalize twinA (spM s) = g at o1 kS kI
  have hb1 := enLock_b o1
  refine bind_step (toSplit_ok s os) (bind_step kS (bind_step (toSplit_ok s os) (bind_step kI (bind_step (eqLock_self g o1) ?_))))
  refine bind_step (toSplit_ok s os) (bind_step (eqSplit_self s os) ?_)
  refine bind_step (markSplit_k s os) ?_
  rw [ltI_f (show ¬ enSplit s 1 < 0 by omega), cond_false]
  refine bind_step (eqLock_self g o1) ?_
  refine bind_step (markLock_ok g o1) (bind_step (heldLock_ok g o1) ?_)
  rw [ltI_f (show ¬ enLock g 1 < 0 by omega), cond_false, neI_self, cond_false]
  refine bind_step (toSplit_ok s os) (bind_step kI (bind_step (eqLock_self g o1) ?_))
  refine bind_step (heldLock_ok g o1) ?_
  rw [ltI_f (show ¬ enLock g 1 < 0 by omega), cond_false, neI_self, cond_false]


end Go.Proofs.YtanoofbkhddokaaGreat.Plain
