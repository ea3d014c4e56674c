/- Plain laws of the printed functions: LockH. No condition beyond those that each lemma states. -/
import Derived.Test.YtanoofbkhddokaaGreatPF
set_option linter.unusedVariables false
set_option linter.unusedSimpArgs false
namespace Go.Proofs.YtanoofbkhddokaaGreat.Plain
open Go Go.Tev

def enLock (l : Tup lockL) (k : Int) : Int := enObs (lkObs l) (enPpu (lkPpu l) (enMem (lkMem l) (k + (bulk (lkImg l) : Int) + ((lkPads l).length : Int))))
def mkLock (l : Tup lockL) (k : Int) : Tup lockL := (numss k (lkImg l), (nums (k + (bulk (lkImg l) : Int)) (lkPads l).length, (nums (k + (bulk (lkImg l) : Int) + ((lkPads l).length : Int)) (lkMem l).1.length, ((lkMem l).2.1,
  ((lkCpu l).1, ((lkCpu l).2.1, ((lkCpu l).2.2.1, ((lkCpu l).2.2.2.1, ((lkCpu l).2.2.2.2.1, ((lkCpu l).2.2.2.2.2.1, ((lkCpu l).2.2.2.2.2.2.1, ((lkCpu l).2.2.2.2.2.2.2.1,
  ((lkPpu l).1, ((lkPpu l).2.1, ((lkPpu l).2.2.1, ((lkPpu l).2.2.2.1, ((lkPpu l).2.2.2.2.1, ((lkPpu l).2.2.2.2.2.1, ((mkPpu (lkPpu l) (enMem (lkMem l) (k + (bulk (lkImg l) : Int) + ((lkPads l).length : Int)))).2.2.2.2.2.2.1, ((mkPpu (lkPpu l) (enMem (lkMem l) (k + (bulk (lkImg l) : Int) + ((lkPads l).length : Int)))).2.2.2.2.2.2.2.1,
  ((lkApu l).1, ((lkApu l).2.1, ((lkApu l).2.2.1, ((lkApu l).2.2.2.1, ((lkApu l).2.2.2.2.1, ((lkApu l).2.2.2.2.2.1, ((lkApu l).2.2.2.2.2.2.1, ((lkPad l).1, ((lkPad l).2.1, (l.2.2.2.2.2.2.2.2.2.2.2.2.2.2.2.2.2.2.2.2.2.2.2.2.2.2.2.2.2.1, (l.2.2.2.2.2.2.2.2.2.2.2.2.2.2.2.2.2.2.2.2.2.2.2.2.2.2.2.2.2.2.1,
  mkObs (lkObs l) (enPpu (lkPpu l) (enMem (lkMem l) (k + (bulk (lkImg l) : Int) + ((lkPads l).length : Int)))))))))))))))))))))))))))))))))))

theorem enObs_b {o : Tup obsL} {k : Int} (h : obsOk o) : k ≤ enObs o k ∧ enObs o k ≤ k + 13194139533312 := by
  obtain ⟨⟨_, _, h1⟩, h2, h3⟩ := h
  unfold enObs
  omega

theorem enLock_b {l : Tup lockL} (h : lockOkS l) : 1 ≤ enLock l 1 := by
  obtain ⟨⟨_, _, a1⟩, a2, a3, a4, a5⟩ := h
  unfold enLock
  have e1 : enMem (lkMem l) (1 + (bulk (lkImg l) : Int) + ((lkPads l).length : Int)) = 1 + (bulk (lkImg l) : Int) + ((lkPads l).length : Int) + ((lkMem l).1.length : Int) := rfl
  have b := enPpu_b (k := enMem (lkMem l) (1 + (bulk (lkImg l) : Int) + ((lkPads l).length : Int))) a4
  have c := enObs_b (k := enPpu (lkPpu l) (enMem (lkMem l) (1 + (bulk (lkImg l) : Int) + ((lkPads l).length : Int)))) a5
  omega

theorem markLock_ok (l : Tup lockL) (h : lockOkS l) : r27 (l, ((1 : Int), ())) = some ((enLock l 1, (mkLock l 1, ())), ()) := by
  unfold r27 m27
  obtain ⟨a1, a2, a3, a4, a5⟩ := h
  have a1' := a1
  obtain ⟨_, _, a1'⟩ := a1'
  have e1 : enMem (lkMem l) (1 + (bulk (lkImg l) : Int) + ((lkPads l).length : Int)) = 1 + (bulk (lkImg l) : Int) + ((lkPads l).length : Int) + ((lkMem l).1.length : Int) := rfl
  have a3 : (lkMem l).1.length ≤ 4398046511104 := a3
  have a2 : (lkPads l).length ≤ 4398046511104 := a2
  have a1' : bulk (lkImg l) ≤ 4398046511104 := a1'
  have b := enPpu_b (k := enMem (lkMem l) (1 + (bulk (lkImg l) : Int) + ((lkPads l).length : Int))) a4
  exact bind_step (markImage_ok (lkImg l) 1 a1 (by omega) (by omega)) (bind_step (markIntS_ok (lkPads l) (1 + (bulk (lkImg l) : Int)) (by omega) (by omega)) (bind_step (markMem_ok (lkMem l) (1 + (bulk (lkImg l) : Int) + ((lkPads l).length : Int)) a3 (by omega) (by omega))
    (bind_step (markPpu_ok (lkPpu l) (enMem (lkMem l) (1 + (bulk (lkImg l) : Int) + ((lkPads l).length : Int))) a4 (by omega) (by omega)) (bind_step (markObs_ok (lkObs l) (enPpu (lkPpu l) (enMem (lkMem l) (1 + (bulk (lkImg l) : Int) + ((lkPads l).length : Int)))) a5 (by omega) (by omega)) rfl))))

theorem heldLock_ok (l : Tup lockL) (h : lockOkS l) : r28 (mkLock l 1, ((1 : Int), ())) = some ((enLock l 1, ()), ()) := by
  unfold r28 m28
  obtain ⟨a1, a2, a3, a4, a5⟩ := h
  have a1' := a1
  obtain ⟨_, _, a1'⟩ := a1'
  have e1 : enMem (lkMem l) (1 + (bulk (lkImg l) : Int) + ((lkPads l).length : Int)) = 1 + (bulk (lkImg l) : Int) + ((lkPads l).length : Int) + ((lkMem l).1.length : Int) := rfl
  have a3 : (lkMem l).1.length ≤ 4398046511104 := a3
  have a2 : (lkPads l).length ≤ 4398046511104 := a2
  have a1' : bulk (lkImg l) ≤ 4398046511104 := a1'
  have b := enPpu_b (k := enMem (lkMem l) (1 + (bulk (lkImg l) : Int) + ((lkPads l).length : Int))) a4
  have c := enObs_b (k := enPpu (lkPpu l) (enMem (lkMem l) (1 + (bulk (lkImg l) : Int) + ((lkPads l).length : Int)))) a5
  refine bind_step (heldImage_ok (lkImg l) 1 a1 (by omega) (by omega)) ?_
  rw [ltI_f (show ¬ 1 + (bulk (lkImg l) : Int) < 0 by omega), cond_false]
  refine bind_step (heldIntS_ok (lkPads l).length (1 + (bulk (lkImg l) : Int)) (by omega) (by omega)) ?_
  rw [ltI_f (show ¬ 1 + (bulk (lkImg l) : Int) + ((lkPads l).length : Int) < 0 by omega), cond_false]
  refine bind_step (heldMem_ok (lkMem l) (1 + (bulk (lkImg l) : Int) + ((lkPads l).length : Int)) a3 (by omega) (by omega)) ?_
  rw [ltI_f (show ¬ enMem (lkMem l) (1 + (bulk (lkImg l) : Int) + ((lkPads l).length : Int)) < 0 by omega), cond_false]
  refine bind_step (heldPpu_ok (lkPpu l) (enMem (lkMem l) (1 + (bulk (lkImg l) : Int) + ((lkPads l).length : Int))) a4 (by omega) (by omega)) ?_
  rw [ltI_f (show ¬ enPpu (lkPpu l) (enMem (lkMem l) (1 + (bulk (lkImg l) : Int) + ((lkPads l).length : Int))) < 0 by omega), cond_false]
  refine bind_step (heldObs_ok (lkObs l) (enPpu (lkPpu l) (enMem (lkMem l) (1 + (bulk (lkImg l) : Int) + ((lkPads l).length : Int)))) a5 (by omega) (by omega)) ?_
  rw [ltI_f (show ¬ enObs (lkObs l) (enPpu (lkPpu l) (enMem (lkMem l) (1 + (bulk (lkImg l) : Int) + ((lkPads l).length : Int)))) < 0 by omega)]
  rfl

theorem szObs2_ok (a : Tup obsL) (n : Int) (h0 : 0 ≤ n) (h1 : n ≤ 1048576) (hw : wfLs obsL a) :
    ∃ m : Int, r86 (a, (n, ())) = some ((m, ()), ()) ∧ m ≤ n ∧ (0 ≤ m → obsOk a ∧ a.2.2.1.length ≤ 1048576) := by
  unfold r86 m86
  obtain ⟨⟨w1, w2⟩, ⟨w3, _⟩, ⟨w4, _⟩, _⟩ := hw
  rw [szIntSS_ok _ n h0 h1 w1 (fun l hl => (w2 l hl).1)]
  simp only [Option.bind_some]
  by_cases e1 : n < ((a.1.length + bulk a.1 : Nat) : Int)
  · refine ⟨-1, ?_, by omega, fun h => absurd h (by decide)⟩
    simp only [left, e1, if_true]
    rfl
  · simp only [left, e1, if_false]
    rw [ltI_f (by omega), cond_false, szIntS_ok _ _ (by omega) (by omega) w3]
    simp only [Option.bind_some]
    by_cases e2 : n - ((a.1.length + bulk a.1 : Nat) : Int) < (a.2.1.length : Int)
    · refine ⟨-1, ?_, by omega, fun h => absurd h (by decide)⟩
      simp only [left, e2, if_true]
      rfl
    · simp only [left, e2, if_false]
      rw [ltI_f (by omega), cond_false, szIntS_ok _ _ (by omega) (by omega) w4]
      simp only [Option.bind_some]
      by_cases e3 : n - ((a.1.length + bulk a.1 : Nat) : Int) - (a.2.1.length : Int) < (a.2.2.1.length : Int)
      · refine ⟨-1, ?_, by omega, fun h => absurd h (by decide)⟩
        simp only [left, e3, if_true]
        rfl
      · refine ⟨n - ((a.1.length + bulk a.1 : Nat) : Int) - (a.2.1.length : Int) - (a.2.2.1.length : Int), ?_, by omega, fun h => ⟨⟨⟨by omega, fun l hl => ?_, by omega⟩, by omega, by omega⟩, by omega⟩⟩
        · simp only [left, e3, if_false]
          rw [ltI_f (by omega)]
          rfl
        · have := bulk_mem hl
          omega

theorem szLock2_ok (a : Tup lockL) (n : Int) (h0 : 0 ≤ n) (h1 : n ≤ 1048576) (hw : wfLs lockL a) : ∃ m : Int, r22 (a, (n, ())) = some ((m, ()), ()) ∧ m ≤ n ∧ (0 ≤ m → lockOkS a ∧ (lkObs a).2.2.1.length ≤ 1048576) := by
  obtain ⟨w1, w2, w3, w4, wa, wx, ws, wp, wz, wn, wc, wi, p1, p2, p3, p4, p5, p6, p7, p8, u1, u2, u3, u4, u5, u6, u7, d1, d2, nm, st, wo⟩ := hw
  obtain ⟨m1, e1, l1, k1⟩ := szImage_ok a.1 n h0 h1 w1
  unfold r22 m22
  simp only [e1, Option.bind_some]
  by_cases hm1 : m1 < 0
  · exact ⟨-1, by rw [ltI_t hm1]; rfl, by omega, fun h => absurd h (by decide)⟩
  rw [ltI_f hm1, cond_false]
  obtain ⟨m2, e2, l2, k2⟩ := sz1 a.2.1 m1 (by omega) (by omega) w2.1
  simp only [e2, Option.bind_some]
  by_cases hm2 : m2 < 0
  · exact ⟨-1, by rw [ltI_t hm2]; rfl, by omega, fun h => absurd h (by decide)⟩
  rw [ltI_f hm2, cond_false]
  obtain ⟨m3, e3, l3, k3⟩ := szMem_ok (lkMem a) m2 (by omega) (by omega) ⟨w3, w4, trivial⟩
  simp only [e3, Option.bind_some]
  by_cases hm3 : m3 < 0
  · exact ⟨-1, by rw [ltI_t hm3]; rfl, by omega, fun h => absurd h (by decide)⟩
  rw [ltI_f hm3, cond_false]
  obtain ⟨m4, e4, l4, k4⟩ := szPpu_ok (lkPpu a) m3 (by omega) (by omega) ⟨p1, p2, p3, p4, p5, p6, p7, p8, trivial⟩
  simp only [e4, Option.bind_some]
  by_cases hm4 : m4 < 0
  · exact ⟨-1, by rw [ltI_t hm4]; rfl, by omega, fun h => absurd h (by decide)⟩
  rw [ltI_f hm4, cond_false]
  obtain ⟨m5, e5, l5, k5⟩ := szObs2_ok (lkObs a) m4 (by omega) (by omega) wo
  simp only [e5, Option.bind_some]
  by_cases hm5 : m5 < 0
  · exact ⟨-1, by rw [ltI_t hm5]; rfl, by omega, fun h => absurd h (by decide)⟩
  · exact ⟨m5, by rw [ltI_f hm5]; rfl, by omega, fun h => ⟨⟨k1 (by omega), Nat.le_trans (k2 (by omega)) (by decide), Nat.le_trans (k3 (by omega)) (by decide), k4 (by omega), (k5 h).1⟩, (k5 h).2⟩⟩
end Go.Proofs.YtanoofbkhddokaaGreat.Plain
