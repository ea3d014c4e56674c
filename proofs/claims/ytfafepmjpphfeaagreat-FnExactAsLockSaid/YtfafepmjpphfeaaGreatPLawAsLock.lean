/- The law on a console in step of one whose parts go apart answers true. No condition. -/
import Derived.Test.YtfafepmjpphfeaaGreatPLawFns
set_option linter.unusedVariables false
set_option linter.unusedSimpArgs false
namespace Go.Proofs.YtfafepmjpphfeaaGreat.Plain
open Go Go.Tev

theorem asLock_small {s : Tup splitL} (h : splitOkS s) : lockOkS (asLock s) := by
  obtain ⟨h1, h2, h3, h4, h5, h6⟩ := h
  unfold asLock
  split
  · exact ⟨h1, h2, h3, h5.1, h5.2.2, h6.2, h4⟩
  · exact ⟨⟨by decide, (fun l hl => by cases hl), by decide⟩, by decide, by decide, ⟨by decide, by decide⟩, ⟨by decide, (fun l hl => by cases hl), by decide⟩, by decide, by decide⟩

def enLock (l : Tup lockL) (k : Int) : Int := enObs (lkObs l) (enPpu (lkPpu l) (enMem (lkMem l) (k + (bulk (lkImg l) : Int) + ((lkPads l).length : Int))))
def mkLock (l : Tup lockL) (k : Int) : Tup lockL := (numss k (lkImg l), (nums (k + (bulk (lkImg l) : Int)) (lkPads l).length, (nums (k + (bulk (lkImg l) : Int) + ((lkPads l).length : Int)) (lkMem l).1.length, ((lkMem l).2.1,
  ((lkCpu l).1, ((lkCpu l).2.1, ((lkCpu l).2.2.1, ((lkCpu l).2.2.2.1, ((lkCpu l).2.2.2.2.1, ((lkCpu l).2.2.2.2.2.1, ((lkCpu l).2.2.2.2.2.2.1, ((lkCpu l).2.2.2.2.2.2.2.1,
  ((lkPpu l).1, ((lkPpu l).2.1, ((lkPpu l).2.2.1, ((lkPpu l).2.2.2.1, ((lkPpu l).2.2.2.2.1, ((lkPpu l).2.2.2.2.2.1, ((mkPpu (lkPpu l) (enMem (lkMem l) (k + (bulk (lkImg l) : Int) + ((lkPads l).length : Int)))).2.2.2.2.2.2.1, ((mkPpu (lkPpu l) (enMem (lkMem l) (k + (bulk (lkImg l) : Int) + ((lkPads l).length : Int)))).2.2.2.2.2.2.2.1,
  ((lkApu l).1, ((lkApu l).2.1, ((lkApu l).2.2.1, ((lkApu l).2.2.2.1, ((lkApu l).2.2.2.2.1, ((lkApu l).2.2.2.2.2.1, ((lkApu l).2.2.2.2.2.2.1, ((lkPad l).1, ((lkPad l).2.1, (l.2.2.2.2.2.2.2.2.2.2.2.2.2.2.2.2.2.2.2.2.2.2.2.2.2.2.2.2.2.1, (l.2.2.2.2.2.2.2.2.2.2.2.2.2.2.2.2.2.2.2.2.2.2.2.2.2.2.2.2.2.2.1,
  mkObs (lkObs l) (enPpu (lkPpu l) (enMem (lkMem l) (k + (bulk (lkImg l) : Int) + ((lkPads l).length : Int)))))))))))))))))))))))))))))))))))

theorem enObs_b {o : Tup obsL} {k : Int} (h : obsOk o) : k ≤ enObs o k ∧ enObs o k ≤ k + 13194139533312 := by
  obtain ⟨⟨_, _, h1⟩, h2, h3⟩ := h
  unfold enObs
  omega

theorem enLock_b {l : Tup lockL} (h : lockOkS l) : 1 ≤ enLock l 1 := by
  obtain ⟨⟨_, _, a1⟩, a2, a3, a4, a5⟩ := h
  unfold enLock
  have e1 : enMem (lkMem l) (1 + (bulk (lkImg l) : Int) + ((lkPads l).length : Int)) = 1 + (bulk (lkImg l) : Int) + ((lkPads l).length : Int) + ((lkMem l).1.length : Int) := rfl
  have b := enPpu_b (k := enMem (lkMem l) (1 + (bulk (lkImg l) : Int) + ((lkPads l).length : Int))) a4
  have c := enObs_b (k := enPpu (lkPpu l) (enMem (lkMem l) (1 + (bulk (lkImg l) : Int) + ((lkPads l).length : Int)))) a5
  omega

theorem markLock_ok (l : Tup lockL) (h : lockOkS l) : r11 (l, ((1 : Int), ())) = some ((enLock l 1, (mkLock l 1, ())), ()) := by
  unfold r11 m11
  obtain ⟨a1, a2, a3, a4, a5⟩ := h
  have a1' := a1
  obtain ⟨_, _, a1'⟩ := a1'
  have e1 : enMem (lkMem l) (1 + (bulk (lkImg l) : Int) + ((lkPads l).length : Int)) = 1 + (bulk (lkImg l) : Int) + ((lkPads l).length : Int) + ((lkMem l).1.length : Int) := rfl
  have a3 : (lkMem l).1.length ≤ 4398046511104 := a3
  have a2 : (lkPads l).length ≤ 4398046511104 := a2
  have a1' : bulk (lkImg l) ≤ 4398046511104 := a1'
  have b := enPpu_b (k := enMem (lkMem l) (1 + (bulk (lkImg l) : Int) + ((lkPads l).length : Int))) a4
  exact bind_step (markImage_ok (lkImg l) 1 a1 (by omega) (by omega)) (bind_step (markIntS_ok (lkPads l) (1 + (bulk (lkImg l) : Int)) (by omega) (by omega)) (bind_step (markMem_ok (lkMem l) (1 + (bulk (lkImg l) : Int) + ((lkPads l).length : Int)) a3 (by omega) (by omega))
    (bind_step (markPpu_ok (lkPpu l) (enMem (lkMem l) (1 + (bulk (lkImg l) : Int) + ((lkPads l).length : Int))) a4 (by omega) (by omega)) (bind_step (markObs_ok (lkObs l) (enPpu (lkPpu l) (enMem (lkMem l) (1 + (bulk (lkImg l) : Int) + ((lkPads l).length : Int)))) a5 (by omega) (by omega)) rfl))))

theorem heldLock_ok (l : Tup lockL) (h : lockOkS l) : r12 (mkLock l 1, ((1 : Int), ())) = some ((enLock l 1, ()), ()) := by
  unfold r12 m12
  obtain ⟨a1, a2, a3, a4, a5⟩ := h
  have a1' := a1
  obtain ⟨_, _, a1'⟩ := a1'
  have e1 : enMem (lkMem l) (1 + (bulk (lkImg l) : Int) + ((lkPads l).length : Int)) = 1 + (bulk (lkImg l) : Int) + ((lkPads l).length : Int) + ((lkMem l).1.length : Int) := rfl
  have a3 : (lkMem l).1.length ≤ 4398046511104 := a3
  have a2 : (lkPads l).length ≤ 4398046511104 := a2
  have a1' : bulk (lkImg l) ≤ 4398046511104 := a1'
  have b := enPpu_b (k := enMem (lkMem l) (1 + (bulk (lkImg l) : Int) + ((lkPads l).length : Int))) a4
  have c := enObs_b (k := enPpu (lkPpu l) (enMem (lkMem l) (1 + (bulk (lkImg l) : Int) + ((lkPads l).length : Int)))) a5
  refine bind_step (heldImage_ok (lkImg l) 1 a1 (by omega) (by omega)) ?_
  rw [ltI_f (show ¬ 1 + (bulk (lkImg l) : Int) < 0 by omega), cond_false]
  refine bind_step (heldIntS_ok (lkPads l).length (1 + (bulk (lkImg l) : Int)) (by omega) (by omega)) ?_
  rw [ltI_f (show ¬ 1 + (bulk (lkImg l) : Int) + ((lkPads l).length : Int) < 0 by omega), cond_false]
  refine bind_step (heldMem_ok (lkMem l) (1 + (bulk (lkImg l) : Int) + ((lkPads l).length : Int)) a3 (by omega) (by omega)) ?_
  rw [ltI_f (show ¬ enMem (lkMem l) (1 + (bulk (lkImg l) : Int) + ((lkPads l).length : Int)) < 0 by omega), cond_false]
  refine bind_step (heldPpu_ok (lkPpu l) (enMem (lkMem l) (1 + (bulk (lkImg l) : Int) + ((lkPads l).length : Int))) a4 (by omega) (by omega)) ?_
  rw [ltI_f (show ¬ enPpu (lkPpu l) (enMem (lkMem l) (1 + (bulk (lkImg l) : Int) + ((lkPads l).length : Int))) < 0 by omega), cond_false]
  refine bind_step (heldObs_ok (lkObs l) (enPpu (lkPpu l) (enMem (lkMem l) (1 + (bulk (lkImg l) : Int) + ((lkPads l).length : Int)))) a5 (by omega) (by omega)) ?_
  rw [ltI_f (show ¬ enObs (lkObs l) (enPpu (lkPpu l) (enMem (lkMem l) (1 + (bulk (lkImg l) : Int) + ((lkPads l).length : Int)))) < 0 by omega)]
  rfl

theorem plain3 : ∀ y : PTup i3, wfTs i3 y → ∃ b, r3 y = some ((true, ()), b) := by
  rintro ⟨s, _⟩ ⟨ws, _⟩
  refine ⟨(), ?_⟩
  unfold r3 m3
  obtain ⟨m, e1, h1, k1⟩ := szSplit_ok s 1048576 (by omega) (by omega) ws
  refine bind_step e1 ?_
  by_cases hm : m < 0
  · rw [ltI_t hm]; rfl
  rw [ltI_f hm, cond_false]
  have os := (k1 (by omega)).1
  have oo := asLock_small os
  obtain ⟨s', ek⟩ := markSplit_ok s os
  have hb := enSplit_b os
  have hk := enLock_b oo
  refine bind_step (toSplit_ok s os) (bind_step (specAsLock_ok s os) (bind_step (toSplit_ok s os) (bind_step (implAsLock_ok s os) (bind_step (eqLock_self _ oo) (bind_step (toSplit_ok s os) (bind_step (eqSplit_self s os) (bind_step ek ?_)))))))
  rw [ltI_f (show ¬ enSplit s 1 < 0 by omega), cond_false]
  refine bind_step (eqLock_self _ oo) (bind_step (markLock_ok _ oo) (bind_step (heldLock_ok _ oo) ?_))
  rw [ltI_f (show ¬ enLock (asLock s) 1 < 0 by omega), cond_false, neI_self, cond_false]
  refine bind_step (toSplit_ok s os) (bind_step (implAsLock_ok s os) (bind_step (eqLock_self _ oo) (bind_step (heldLock_ok _ oo) ?_)))
  rw [ltI_f (show ¬ enLock (asLock s) 1 < 0 by omega), cond_false, neI_self, cond_false]

end Go.Proofs.YtfafepmjpphfeaaGreat.Plain
