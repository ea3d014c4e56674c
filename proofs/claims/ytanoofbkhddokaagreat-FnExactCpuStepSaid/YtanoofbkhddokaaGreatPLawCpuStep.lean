/- A law answers true. No condition. -/
import Derived.Test.YtanoofbkhddokaaGreatPF
set_option linter.unusedVariables false
set_option linter.unusedSimpArgs false
namespace Go.Proofs.YtanoofbkhddokaaGreat.Plain
open Go Go.Tev

theorem plain5 : ∀ y : PTup i5, wfTs i5 y → ∃ b, r5 y = some ((true, ()), b) := by
  rintro ⟨s, _⟩ ⟨ws, _⟩
  refine ⟨(), ?_⟩
  unfold r5 m5
  obtain ⟨m, e1, h1, k1⟩ := szSplit_ok s 1048576 (by omega) (by omega) ws
  refine bind_step e1 ?_
  by_cases hm : m < 0
  · rw [ltI_t hm]; rfl
  rw [ltI_f hm, cond_false]
  obtain ⟨os, hr⟩ := k1 (by omega)
  have hr : (spM s).reads.length ≤ 1048576 := hr
  have hs : splitOkS (spM s).t := os
  have hroom := room_of hr
  have hb0 := enSplit_b os
  have o1 := cpuStepA_S hr
  have kS := specCpuStep_a (spM s) hs hroom
  have kI := implCpuStep_a (spM s) hs hroom
  generalize cpuStepA (spM s) = g at o1 kS kI
  obtain ⟨g, c⟩ := g
  have o1 : splitOkS g := o1
  have hb1 := (spB o1).b6
  cases c
  · refine bind_step (toSplit_ok s os) (bind_step kS (bind_step (toSplit_ok s os) (bind_step kI (bind_step (eqSplit_self g o1) ?_))))
    refine bind_step (toSplit_ok s os) (bind_step (eqSplit_self s os) ?_)
    refine bind_step (markSplit_k s os) ?_
    rw [ltI_f (show ¬ enSplit s 1 < 0 by omega), cond_false]
    refine bind_step (eqSplit_self g o1) ?_
    refine bind_step (markSplit_k g o1) (bind_step (heldSplit_ok g o1) ?_)
    rw [ltI_f (show ¬ enSplit g 1 < 0 by omega), cond_false, neI_self, cond_false]
    refine bind_step (toSplit_ok s os) (bind_step kI (bind_step (eqSplit_self g o1) ?_))
    refine bind_step (heldSplit_ok g o1) ?_
    rw [ltI_f (show ¬ enSplit g 1 < 0 by omega), cond_false, neI_self, cond_false]
  · refine bind_step (toSplit_ok s os) (bind_step kS (bind_step (toSplit_ok s os) (bind_step kI (bind_step (eqSplit_self g o1) ?_))))
    refine bind_step (toSplit_ok s os) (bind_step (eqSplit_self s os) ?_)
    refine bind_step (markSplit_k s os) ?_
    rw [ltI_f (show ¬ enSplit s 1 < 0 by omega), cond_false]
    refine bind_step (eqSplit_self g o1) ?_
    refine bind_step (markSplit_k g o1) (bind_step (heldSplit_ok g o1) ?_)
    rw [ltI_f (show ¬ enSplit g 1 < 0 by omega), cond_false, neI_self, cond_false]
    refine bind_step (toSplit_ok s os) (bind_step kI (bind_step (eqSplit_self g o1) ?_))
    refine bind_step (heldSplit_ok g o1) ?_
    rw [ltI_f (show ¬ enSplit g 1 < 0 by omega), cond_false, neI_self, cond_false]


end Go.Proofs.YtanoofbkhddokaaGreat.Plain
