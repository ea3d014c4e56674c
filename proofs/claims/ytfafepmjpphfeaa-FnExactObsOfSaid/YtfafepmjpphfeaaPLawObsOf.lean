/- The law on what is seen of a console answers true. No condition. -/
import Derived.Test.YtfafepmjpphfeaaPLawFns
set_option linter.unusedVariables false
set_option linter.unusedSimpArgs false
namespace Go.Proofs.Ytfafepmjpphfeaa.Plain
open Go Go.Tev

theorem obsOf_small {s : Tup splitL} (h : splitOkS s) : obsOk (obsOf s) := by
  obtain ⟨h1, h2, h3, h4, h5, h6⟩ := h
  exact ⟨h5.2.2, h6.2, h4⟩

theorem eqObs_self (o : Tup obsL) (h : obsOk o) : r14 (o, (o, ())) = some ((true, ()), ()) := by rw [eqObs_ok o o h, obsEq_self]

theorem plain4 : ∀ y : PTup i4, wfTs i4 y → ∃ b, r4 y = some ((true, ()), b) := by
  rintro ⟨s, _⟩ ⟨ws, _⟩
  refine ⟨(), ?_⟩
  unfold r4 m4
  obtain ⟨m, e1, h1, k1⟩ := szSplit_ok s 1048576 (by omega) (by omega) ws
  refine bind_step e1 ?_
  by_cases hm : m < 0
  · rw [ltI_t hm]; rfl
  rw [ltI_f hm, cond_false]
  have os := (k1 (by omega)).1
  have oo := obsOf_small os
  obtain ⟨s', ek⟩ := markSplit_ok s os
  have hb := enSplit_b os
  have hk : 1 ≤ enObs (obsOf s) 1 := by unfold enObs; omega
  refine bind_step (toSplit_ok s os) (bind_step (specObsOf_ok s os) (bind_step (toSplit_ok s os) (bind_step (implObsOf_ok s os) (bind_step (eqObs_self _ oo) (bind_step (toSplit_ok s os) (bind_step (eqSplit_self s os) (bind_step ek ?_)))))))
  rw [ltI_f (show ¬ enSplit s 1 < 0 by omega), cond_false]
  refine bind_step (eqObs_self _ oo) (bind_step (markObs_ok _ 1 oo (by omega) (by omega)) (bind_step (heldObs_ok _ 1 oo (by omega) (by omega)) ?_))
  rw [ltI_f (show ¬ enObs (obsOf s) 1 < 0 by omega), cond_false, neI_self, cond_false]
  refine bind_step (toSplit_ok s os) (bind_step (implObsOf_ok s os) (bind_step (eqObs_self _ oo) (bind_step (heldObs_ok _ 1 oo (by omega) (by omega)) ?_)))
  rw [ltI_f (show ¬ enObs (obsOf s) 1 < 0 by omega), cond_false, neI_self, cond_false]

end Go.Proofs.Ytfafepmjpphfeaa.Plain
