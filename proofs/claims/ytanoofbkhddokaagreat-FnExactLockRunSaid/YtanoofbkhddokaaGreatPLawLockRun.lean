/- A law answers true. No condition. -/
import Derived.Test.YtanoofbkhddokaaGreatPG
set_option linter.unusedVariables false
set_option linter.unusedSimpArgs false
namespace Go.Proofs.YtanoofbkhddokaaGreat.Plain
open Go Go.Tev

theorem plain4 : ∀ y : PTup i4, wfTs i4 y → ∃ b, r4 y = some ((true, ()), b) := by
  rintro ⟨s, n, _⟩ ⟨ws, _⟩
  refine ⟨(), ?_⟩
  unfold r4 m4
  obtain ⟨m, e1, h1, k1⟩ := szLock2_ok s 1048576 (by omega) (by omega) ws
  refine bind_step e1 ?_
  by_cases hm : m < 0
  · rw [ltI_t hm]; rfl
  rw [ltI_f hm, cond_false]
  obtain ⟨os, hr⟩ := k1 (by omega)
  have hr : (lkM s).reads.length ≤ 1048576 := hr
  have hs : lockOkS (lkM s).t := os
  have hb0 := enLock_b os
  have o1 := lockRunA_S hr n
  have kS := specLockRun_a (lkM s) n hs hr
  have kI := implLockRun_a (lkM s) n hs hr
  generalize lockRunA (lkM s) n = g at o1 kS kI
  obtain ⟨g, c⟩ := g
  have o1 : lockOkS g := o1
  have hb1 := enLock_b o1
  refine bind_step (toLock_ok s os) (bind_step kS (bind_step (toLock_ok s os) (bind_step kI (bind_step (eqLock_self g o1) ?_))))
  rw [Bool.not_true, cond_false, neI_self, cond_false]
  refine bind_step (toLock_ok s os) (bind_step (eqLock_self s os) ?_)
  refine bind_step (markLock_ok s os) ?_
  rw [ltI_f (show ¬ enLock s 1 < 0 by omega), cond_false]
  refine bind_step (eqLock_self g o1) ?_
  rw [Bool.not_true, cond_false, cond_false]
  refine bind_step (markLock_ok g o1) (bind_step (heldLock_ok g o1) ?_)
  rw [ltI_f (show ¬ enLock g 1 < 0 by omega), cond_false, neI_self, cond_false]
  refine bind_step (toLock_ok s os) (bind_step kI (bind_step (eqLock_self g o1) ?_))
  rw [Bool.not_true, cond_false, neI_self, cond_false]
  refine bind_step (heldLock_ok g o1) ?_
  rw [ltI_f (show ¬ enLock g 1 < 0 by omega), cond_false, neI_self, cond_false]


end Go.Proofs.YtanoofbkhddokaaGreat.Plain
