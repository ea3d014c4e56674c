/- Plain laws of the printed functions: LockH. No condition beyond those that each lemma states. -/
import Derived.Test.YtanoofbkhddokaaGreatPF
set_option linter.unusedVariables false
set_option linter.unusedSimpArgs false
namespace Go.Proofs.YtanoofbkhddokaaGreat.Plain
open Go Go.Tev

def enLock (l : Tup lockL) (k : Int) : Int := enObs (lkObs l) (enPpu (lkPpu l) (enMem (lkMem l) (k + (bulk (lkImg l) : Int) + ((lkPads l).length : Int))))
def mkLock (l : Tup lockL) (k : Int) : Tup lockL := (numss k (lkImg l), (nums (k + (bulk (lkImg l) : Int)) (lkPads l).length, (nums (k + (bulk (lkImg l) : Int) + ((lkPads l).length : Int)) (lkMem l).1.length, ((lkMem l).2.1,
  ((lkCpu l).1, ((lkCpu l).2.1, ((lkCpu l).2.2.1, ((lkCpu l).2.2.2.1, ((lkCpu l).2.2.2.2.1, ((lkCpu l).2.2.2.2.2.1, ((lkCpu l).2.2.2.2.2.2.1, ((lkCpu l).2.2.2.2.2.2.2.1,
  ((lkPpu l).1, ((lkPpu l).2.1, ((lkPpu l).2.2.1, ((lkPpu l).2.2.2.1, ((lkPpu l).2.2.2.2.1, ((lkPpu l).2.2.2.2.2.1, ((mkPpu (lkPpu l) (enMem (lkMem l) (k + (bulk (lkImg l) : Int) + ((lkPads l).length : Int)))).2.2.2.2.2.2.1, ((mkPpu (lkPpu l) (enMem (lkMem l) (k + (bulk (lkImg l) : Int) + ((lkPads l).length : Int)))).2.2.2.2.2.2.2.1,
  ((lkApu l).1, ((lkApu l).2.1, ((lkApu l).2.2.1, ((lkApu l).2.2.2.1, ((lkApu l).2.2.2.2.1, ((lkApu l).2.2.2.2.2.1, ((lkApu l).2.2.2.2.2.2.1, ((lkPad l).1, ((lkPad l).2.1, (l.2.2.2.2.2.2.2.2.2.2.2.2.2.2.2.2.2.2.2.2.2.2.2.2.2.2.2.2.2.1, (l.2.2.2.2.2.2.2.2.2.2.2.2.2.2.2.2.2.2.2.2.2.2.2.2.2.2.2.2.2.2.1,
  mkObs (lkObs l) (enPpu (lkPpu l) (enMem (lkMem l) (k + (bulk (lkImg l) : Int) + ((lkPads l).length : Int)))))))))))))))))))))))))))))))))))

theorem enObs_b {o : Tup obsL} {k : Int} (h : obsOk o) : k ≤ enObs o k ∧ enObs o k ≤ k + 13194139533312 := by
  obtain ⟨⟨_, _, h1⟩, h2, h3⟩ := h
  unfold enObs
  omega

theorem enLock_b {l : Tup lockL} (h : lockOkS l) : 1 ≤ enLock l 1 := by
  obtain ⟨⟨_, _, a1⟩, a2, a3, a4, a5⟩ := h
  unfold enLock
  have e1 : enMem (lkMem l) (1 + (bulk (lkImg l) : Int) + ((lkPads l).length : Int)) = 1 + (bulk (lkImg l) : Int) + ((lkPads l).length : Int) + ((lkMem l).1.length : Int) := rfl
  have b := enPpu_b (k := enMem (lkMem l) (1 + (bulk (lkImg l) : Int) + ((lkPads l).length : Int))) a4
  have c := enObs_b (k := enPpu (lkPpu l) (enMem (lkMem l) (1 + (bulk (lkImg l) : Int) + ((lkPads l).length : Int)))) a5
  omega

theorem markLock_ok (l : Tup lockL) (h : lockOkS l) : r27 (l, ((1 : Int), ())) = some ((enLock l 1, (mkLock l 1, ())), ()) := by
  unfold r27 m27
  obtain ⟨a1, a2, a3, a4, a5⟩ := h
  have a1' := a1
  obtain ⟨_, _, a1'⟩ := a1'
  have e1 : enMem (lkMem l) (1 + (bulk (lkImg l) : Int) + ((lkPads l).length : Int)) = 1 + (bulk (lkImg l) : Int) + ((lkPads l).length : Int) + ((lkMem l).1.length : Int) := rfl
  have a3 : (lkMem l).1.length ≤ 4398046511104 := a3
  have a2 : (lkPads l).length ≤ 4398046511104 := a2
  have a1' : bulk (lkImg l) ≤ 4398046511104 := a1'
  have b := enPpu_b (k := enMem (lkMem l) (1 + (bulk (lkImg l) : Int) + ((lkPads l).length : Int))) a4
  exact bind_step (markImage_ok (lkImg l) 1 a1 (by omega) (by omega)) (bind_step (markIntS_ok (lkPads l) (1 + (bulk (lkImg l) : Int)) (by omega) (by omega)) (bind_step (markMem_ok (lkMem l) (1 + (bulk (lkImg l) : Int) + ((lkPads l).length : Int)) a3 (by omega) (by omega))
    (bind_step (markPpu_ok (lkPpu l) (enMem (lkMem l) (1 + (bulk (lkImg l) : Int) + ((lkPads l).length : Int))) a4 (by omega) (by omega)) (bind_step (markObs_ok (lkObs l) (enPpu (lkPpu l) (enMem (lkMem l) (1 + (bulk (lkImg l) : Int) + ((lkPads l).length : Int)))) a5 (by omega) (by omega)) rfl))))

theorem heldLock_ok (l : Tup lockL) (h : lockOkS l) : r28 (mkLock l 1, ((1 : Int), ())) = some ((enLock l 1, ()), ()) := by
  unfold r28 m28
  obtain ⟨a1, a2, a3, a4, a5⟩ := h
  have a1' := a1
  obtain ⟨_, _, a1'⟩ := a1'
  have e1 : enMem (lkMem l) (1 + (bulk (lkImg l) : Int) + ((lkPads l).length : Int)) = 1 + (bulk (lkImg l) : Int) + ((lkPads l).length : Int) + ((lkMem l).1.length : Int) := rfl
  have a3 : (lkMem l).1.length ≤ 4398046511104 := a3
  have a2 : (lkPads l).length ≤ 4398046511104 := a2
  have a1' : bulk (lkImg l) ≤ 4398046511104 := a1'
  have b := enPpu_b (k := enMem (lkMem l) (1 + (bulk (lkImg l) : Int) + ((lkPads l).length : Int))) a4
  have c := enObs_b (k := enPpu (lkPpu l) (enMem (lkMem l) (1 + (bulk (lkImg l) : Int) + ((lkPads l).length : Int)))) a5
  refine bind_step (heldImage_ok (lkImg l) 1 a1 (by omega) (by omega)) ?_
  rw [ltI_f (show ¬ 1 + (bulk (lkImg l) : Int) < 0 by omega), cond_false]
  refine bind_step (heldIntS_ok (lkPads l).length (1 + (bulk (lkImg l) : Int)) (by omega) (by omega)) ?_
  rw [ltI_f (show ¬ 1 + (bulk (lkImg l) : Int) + ((lkPads l).length : Int) < 0 by omega), cond_false]
  refine bind_step (heldMem_ok (lkMem l) (1 + (bulk (lkImg l) : Int) + ((lkPads l).length : Int)) a3 (by omega) (by omega)) ?_
  rw [ltI_f (show ¬ enMem (lkMem l) (1 + (bulk (lkImg l) : Int) + ((lkPads l).length : Int)) < 0 by omega), cond_false]
  refine bind_step (heldPpu_ok (lkPpu l) (enMem (lkMem l) (1 + (bulk (lkImg l) : Int) + ((lkPads l).length : Int))) a4 (by omega) (by omega)) ?_
  rw [ltI_f (show ¬ enPpu (lkPpu l) (enMem (lkMem l) (1 + (bulk (lkImg l) : Int) + ((lkPads l).length : Int))) < 0 by omega), cond_false]
  refine bind_step (heldObs_ok (lkObs l) (enPpu (lkPpu l) (enMem (lkMem l) (1 + (bulk (lkImg l) : Int) + ((lkPads l).length : Int)))) a5 (by omega) (by omega)) ?_
  rw [ltI_f (show ¬ enObs (lkObs l) (enPpu (lkPpu l) (enMem (lkMem l) (1 + (bulk (lkImg l) : Int) + ((lkPads l).length : Int)))) < 0 by omega)]
  rfl
end Go.Proofs.YtanoofbkhddokaaGreat.Plain
