/- A law answers true. No condition. -/
import Derived.Test.YtanoofbkhddokaaGreatPF
set_option linter.unusedVariables false
set_option linter.unusedSimpArgs false
namespace Go.Proofs.YtanoofbkhddokaaGreat.Plain
open Go Go.Tev

theorem plain11 : ∀ y : PTup i11, wfTs i11 y → ∃ b, r11 y = some ((true, ()), b) := by
  rintro ⟨s, _⟩ ⟨ws, _⟩
  refine ⟨(), ?_⟩
  unfold r11 m11
  obtain ⟨m, e1, h1, k1⟩ := szSplit_ok s 1048576 (by omega) (by omega) ws
  refine bind_step e1 ?_
  by_cases hm : m < 0
  · rw [ltI_t hm]; rfl
  rw [ltI_f hm, cond_false]
  obtain ⟨os, hr⟩ := k1 (by omega)
  have hr : (spM s).reads.length ≤ 1048576 := hr
  have hs : splitOkS (spM s).t := os
  have hroom := room_of hr
  have hb0 := enSplit_b os
  refine bind_step (toSplit_ok s os) (bind_step (specJudgeAll_ok (spM s) hs hroom) (bind_step (toSplit_ok s os) (bind_step (implJudgeAll_ok (spM s) hs hroom) ?_)))
  generalize judgeAllA (spM s) = b
  cases b <;> exact bind_step (toSplit_ok s os) (bind_step (eqSplit_self s os) rfl)


end Go.Proofs.YtanoofbkhddokaaGreat.Plain
