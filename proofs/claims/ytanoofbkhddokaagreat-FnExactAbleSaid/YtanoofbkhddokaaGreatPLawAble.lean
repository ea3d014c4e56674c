/- A law answers true. No condition. -/
import Derived.Test.YtanoofbkhddokaaGreatPF
set_option linter.unusedVariables false
set_option linter.unusedSimpArgs false
namespace Go.Proofs.YtanoofbkhddokaaGreat.Plain
open Go Go.Tev

theorem plain7 : ∀ y : PTup i7, wfTs i7 y → ∃ b, r7 y = some ((true, ()), b) := by
  rintro ⟨s, _⟩ ⟨ws, _⟩
  refine ⟨(), ?_⟩
  unfold r7 m7
  obtain ⟨m, e1, h1, k1⟩ := szSplit_ok s 1048576 (by omega) (by omega) ws
  refine bind_step e1 ?_
  by_cases hm : m < 0
  · rw [ltI_t hm]; rfl
  rw [ltI_f hm, cond_false]
  obtain ⟨os, hr⟩ := k1 (by omega)
  have hr : (spM s).reads.length ≤ 1048576 := hr
  have hs : splitOkS (spM s).t := os
  have hroom := room_of hr
  have hb0 := enSplit_b os
  have kS := specAble_a (spM s) hs hroom
  have kI := implAble_a (spM s) hs hroom
  have hl := ableA_len (spM s)
  generalize ableA (spM s) = g at hl kS kI
  have hg : g.length ≤ 4398046511104 := by omega
  refine bind_step (toSplit_ok s os) (bind_step kS (bind_step (toSplit_ok s os) (bind_step kI (bind_step (eqI_ok1 g hg) (bind_step (toSplit_ok s os) (bind_step (eqSplit_self s os) (bind_step (markSplit_k s os) ?_)))))))
  rw [ltI_f (show ¬ enSplit s 1 < 0 by omega), cond_false]
  refine bind_step (eqI_ok1 g hg) (bind_step (markIntS_ok g 1 (by decide) (by omega)) (bind_step (heldIntS_ok g.length 1 (by decide) (by omega)) ?_))
  rw [ltI_f (show ¬ 1 + (g.length : Int) < 0 by omega), cond_false, neI_self, cond_false]
  refine bind_step (toSplit_ok s os) (bind_step kI (bind_step (eqI_ok1 g hg) (bind_step (heldIntS_ok g.length 1 (by decide) (by omega)) ?_)))
  rw [ltI_f (show ¬ 1 + (g.length : Int) < 0 by omega), cond_false, neI_self, cond_false]


end Go.Proofs.YtanoofbkhddokaaGreat.Plain
