/- The law on the comparison of consoles in step answers true. No condition. -/
import Derived.Test.YtfafepmjpphfeaaPLock
set_option linter.unusedVariables false
set_option linter.unusedSimpArgs false
namespace Go.Proofs.Ytfafepmjpphfeaa.Plain
open Go Go.Tev

theorem specLockSame_ok (a b : Tup lockL) (h : lockOkS a) (hb : lockOkS b) : r6 (a, (b, ())) = some ((lockEq a b, ()), ()) := by
  unfold r6 m6
  obtain ⟨_, _, h3, h4, h5⟩ := h
  simp only [same_ok (lkMem a).1 (lkMem b).1 h3, specPpu_ok (lkPpu a) (lkPpu b) h4, specSame_ok (lkObs a) (lkObs b) h5 hb.2.2.2.2, Option.bind_some, cond_and]
  show some ((decide ((lkMem a).1 = (lkMem b).1) && (eqI (lkMem a).2.1 (lkMem b).2.1 && (cpuEq (lkCpu a) (lkCpu b) && (ppuEq (lkPpu a) (lkPpu b) && (apuEq (lkApu a) (lkApu b) && (padEq (lkPad a) (lkPad b) && ((a.2.2.2.2.2.2.2.2.2.2.2.2.2.2.2.2.2.2.2.2.2.2.2.2.2.2.2.2.2.1 == b.2.2.2.2.2.2.2.2.2.2.2.2.2.2.2.2.2.2.2.2.2.2.2.2.2.2.2.2.2.1) &&
    (eqI a.2.2.2.2.2.2.2.2.2.2.2.2.2.2.2.2.2.2.2.2.2.2.2.2.2.2.2.2.2.2.1 b.2.2.2.2.2.2.2.2.2.2.2.2.2.2.2.2.2.2.2.2.2.2.2.2.2.2.2.2.2.2.1 && obsEq (lkObs a) (lkObs b)))))))), ()), ()) = _
  unfold lockEq memEq
  generalize decide ((lkMem a).1 = (lkMem b).1) = x1
  generalize eqI (lkMem a).2.1 (lkMem b).2.1 = x2
  generalize cpuEq (lkCpu a) (lkCpu b) = x3
  generalize ppuEq (lkPpu a) (lkPpu b) = x4
  generalize apuEq (lkApu a) (lkApu b) = x5
  generalize padEq (lkPad a) (lkPad b) = x6
  generalize obsEq (lkObs a) (lkObs b) = x7
  cases x1 <;> cases x2 <;> cases x3 <;> cases x4 <;> cases x5 <;> cases x6 <;> simp

/-! ### the law's own functions -/

theorem neI_self (a : Int) : neI a a = false := neI_f rfl

theorem toImage_ok (l : List (List Int)) (h : small l) : r27 ((l, ()), ()) = some (((l, ()), ()), ()) := by
  unfold r27 m27
  simp only [toIntSS_ok l h, Option.bind_some]

theorem toMem_ok (a : Tup memL) (h : a.1.length ≤ 1048576) : r29 (a, ()) = some ((a, ()), ()) := by
  unfold r29 m29
  simp only [toIntS_ok a.1 h, Option.bind_some]

theorem toCpu_ok (a : Tup cpuL) : r30 (a, ()) = some ((a, ()), ()) := rfl

theorem toApu_ok (a : Tup apuL) : r32 (a, ()) = some ((a, ()), ()) := rfl

theorem toPad_ok (a : Tup padL) : r33 (a, ()) = some ((a, ()), ()) := rfl

theorem toPpu_ok (a : Tup ppuL) (h : ppuOkS a) : r31 (a, ()) = some ((a, ()), ()) := by
  unfold r31 m31
  simp only [toIntS_ok _ h.1, Option.bind_some]
  rw [show r28 a.2.2.2.2.2.2.2 = some ((a.2.2.2.2.2.2.2.1, ()), ()) from toIntS_ok _ h.2]
  rfl

theorem toLock_ok (a : Tup lockL) (h : lockOkS a) : r7 (a, ()) = some ((a, ()), ()) := by
  unfold r7 m7
  obtain ⟨h1, h2, h3, h4, h5⟩ := h
  simp only [toImage_ok _ h1, toIntS_ok _ h2, toMem_ok (lkMem a) h3, toCpu_ok (lkCpu a), toPpu_ok (lkPpu a) h4, toApu_ok (lkApu a), toPad_ok (lkPad a), toObs_ok (lkObs a) h5, Option.bind_some]
  rfl

theorem eqImage_self (l : List (List Int)) (h : small l) : r38 ((l, ()), ((l, ()), ())) = some ((true, ()), ()) := by
  unfold r38 m38
  simp only [eqIntSS_ok l l h, Option.bind_some, decide_true, Bool.not_true, cond_false]

theorem eqMem_self (a : Tup memL) (h : a.1.length ≤ 1048576) : r40 (a, (a, ())) = some ((true, ()), ()) := by
  unfold r40 m40
  simp only [eqIntS_ok _ _ h, Option.bind_some, decide_true, Bool.not_true, cond_false, neI_self]

theorem eqCpu_self (a : Tup cpuL) : r41 (a, (a, ())) = some ((true, ()), ()) := by
  unfold r41 m41
  simp only [neI_self, beq_self_eq_true, Bool.not_true, cond_false]

theorem eqApu_self (a : Tup apuL) : r43 (a, (a, ())) = some ((true, ()), ()) := by
  unfold r43 m43
  simp only [neI_self, beq_self_eq_true, Bool.not_true, cond_false]

theorem eqPad_self (a : Tup padL) : r44 (a, (a, ())) = some ((true, ()), ()) := by
  unfold r44 m44
  simp only [neI_self, beq_self_eq_true, Bool.not_true, cond_false]

theorem eqPpu_self (a : Tup ppuL) (h : ppuOkS a) : r42 (a, (a, ())) = some ((true, ()), ()) := by
  unfold r42 m42
  rw [show r39 (a.2.2.2.2.2.2.2.1, a.2.2.2.2.2.2.2) = some ((true, ()), ()) from by
    have := eqIntS_ok a.2.2.2.2.2.2.2.1 a.2.2.2.2.2.2.2.1 h.2
    rw [decide_eq_true rfl] at this
    exact this]
  simp only [eqIntS_ok _ _ h.1, Option.bind_some, decide_true, Bool.not_true, cond_false, neI_self, beq_self_eq_true]

theorem eqLock_self (a : Tup lockL) (h : lockOkS a) : r9 (a, (a, ())) = some ((true, ()), ()) := by
  unfold r9 m9
  obtain ⟨h1, h2, h3, h4, h5⟩ := h
  simp only [eqImage_self _ h1, eqIntS_ok _ _ h2, eqMem_self (lkMem a) h3, eqCpu_self (lkCpu a), eqPpu_self (lkPpu a) h4, eqApu_self (lkApu a), eqPad_self (lkPad a), eqObs_ok (lkObs a) (lkObs a) h5, obsEq_self, Option.bind_some, decide_true, Bool.not_true, cond_false, neI_self, beq_self_eq_true]

/-! ### sizes -/

theorem sz1 (a : List Int) (n : Int) (h0 : 0 ≤ n) (h1 : n ≤ 1048576) (hl : a.length ≤ maxLen) : ∃ m : Int, r20 (a, (n, ())) = some ((m, ()), ()) ∧ m ≤ n ∧ (0 ≤ m → a.length ≤ 1048576) := by
  refine ⟨left n a.length, szIntS_ok a n h0 h1 hl, ?_, ?_⟩ <;> unfold left <;> split <;> omega

theorem sz2 (a : List (List Int)) (n : Int) (h0 : 0 ≤ n) (h1 : n ≤ 1048576) (hw : wfL (.sl false .n) a) : ∃ m : Int, r63 (a, (n, ())) = some ((m, ()), ()) ∧ m ≤ n ∧ (0 ≤ m → small a) := by
  refine ⟨left n (a.length + bulk a), szIntSS_ok a n h0 h1 hw.1 (fun l hl => (hw.2 l hl).1), ?_, ?_⟩
  · unfold left; split <;> omega
  · unfold left
    split
    · intro h; omega
    · intro _
      refine ⟨by omega, fun l hl => ?_⟩
      have := bulk_mem hl
      omega

theorem szImage_ok (a : List (List Int)) (n : Int) (h0 : 0 ≤ n) (h1 : n ≤ 1048576) (hw : wfL (.sl false .n) a) : ∃ m : Int, r19 ((a, ()), (n, ())) = some ((m, ()), ()) ∧ m ≤ n ∧ (0 ≤ m → small a) := by
  obtain ⟨m, e, h2, h3⟩ := sz2 a n h0 h1 hw
  unfold r19 m19
  simp only [e, Option.bind_some]
  by_cases hm : m < 0
  · exact ⟨-1, by rw [ltI_t hm]; rfl, by omega, fun h => absurd h (by decide)⟩
  · exact ⟨m, by rw [ltI_f hm]; rfl, h2, h3⟩

theorem szMem_ok (a : Tup memL) (n : Int) (h0 : 0 ≤ n) (h1 : n ≤ 1048576) (hw : wfLs memL a) : ∃ m : Int, r21 (a, (n, ())) = some ((m, ()), ()) ∧ m ≤ n ∧ (0 ≤ m → a.1.length ≤ 1048576) := by
  obtain ⟨m, e, h2, h3⟩ := sz1 a.1 n h0 h1 hw.1.1
  unfold r21 m21
  simp only [e, Option.bind_some]
  by_cases hm : m < 0
  · exact ⟨-1, by rw [ltI_t hm]; rfl, by omega, fun h => absurd h (by decide)⟩
  · exact ⟨m, by rw [ltI_f hm]; rfl, h2, h3⟩

theorem szPpu_ok (a : Tup ppuL) (n : Int) (h0 : 0 ≤ n) (h1 : n ≤ 1048576) (hw : wfLs ppuL a) : ∃ m : Int, r22 (a, (n, ())) = some ((m, ()), ()) ∧ m ≤ n ∧ (0 ≤ m → ppuOkS a) := by
  obtain ⟨_, _, _, _, _, _, w1, w2, _⟩ := hw
  obtain ⟨m, e, h2, h3⟩ := sz1 a.2.2.2.2.2.2.1 n h0 h1 w1.1
  unfold r22 m22
  simp only [e, Option.bind_some]
  by_cases hm : m < 0
  · exact ⟨-1, by rw [ltI_t hm]; rfl, by omega, fun h => absurd h (by decide)⟩
  rw [ltI_f hm, cond_false]
  obtain ⟨m2, e2, h4, h5⟩ := sz1 a.2.2.2.2.2.2.2.1 m (by omega) (by omega) w2.1
  simp only [e2, Option.bind_some]
  by_cases hm2 : m2 < 0
  · exact ⟨-1, by rw [ltI_t hm2]; rfl, by omega, fun h => absurd h (by decide)⟩
  · exact ⟨m2, by rw [ltI_f hm2]; rfl, by omega, fun h => ⟨h3 (by omega), h5 h⟩⟩

theorem szLock_ok (a : Tup lockL) (n : Int) (h0 : 0 ≤ n) (h1 : n ≤ 1048576) (hw : wfLs lockL a) : ∃ m : Int, r5 (a, (n, ())) = some ((m, ()), ()) ∧ m ≤ n ∧ (0 ≤ m → lockOkS a) := by
  obtain ⟨w1, w2, w3, w4, wa, wx, ws, wp, wz, wn, wc, wi, p1, p2, p3, p4, p5, p6, p7, p8, u1, u2, u3, u4, u5, u6, u7, d1, d2, nm, st, wo⟩ := hw
  obtain ⟨m1, e1, l1, k1⟩ := szImage_ok a.1 n h0 h1 w1
  unfold r5 m5
  simp only [e1, Option.bind_some]
  by_cases hm1 : m1 < 0
  · exact ⟨-1, by rw [ltI_t hm1]; rfl, by omega, fun h => absurd h (by decide)⟩
  rw [ltI_f hm1, cond_false]
  obtain ⟨m2, e2, l2, k2⟩ := sz1 a.2.1 m1 (by omega) (by omega) w2.1
  simp only [e2, Option.bind_some]
  by_cases hm2 : m2 < 0
  · exact ⟨-1, by rw [ltI_t hm2]; rfl, by omega, fun h => absurd h (by decide)⟩
  rw [ltI_f hm2, cond_false]
  obtain ⟨m3, e3, l3, k3⟩ := szMem_ok (lkMem a) m2 (by omega) (by omega) ⟨w3, w4, trivial⟩
  simp only [e3, Option.bind_some]
  by_cases hm3 : m3 < 0
  · exact ⟨-1, by rw [ltI_t hm3]; rfl, by omega, fun h => absurd h (by decide)⟩
  rw [ltI_f hm3, cond_false]
  obtain ⟨m4, e4, l4, k4⟩ := szPpu_ok (lkPpu a) m3 (by omega) (by omega) ⟨p1, p2, p3, p4, p5, p6, p7, p8, trivial⟩
  simp only [e4, Option.bind_some]
  by_cases hm4 : m4 < 0
  · exact ⟨-1, by rw [ltI_t hm4]; rfl, by omega, fun h => absurd h (by decide)⟩
  rw [ltI_f hm4, cond_false]
  obtain ⟨m5, e5, l5, k5⟩ := szObs_ok (lkObs a) m4 (by omega) (by omega) wo
  simp only [e5, Option.bind_some]
  by_cases hm5 : m5 < 0
  · exact ⟨-1, by rw [ltI_t hm5]; rfl, by omega, fun h => absurd h (by decide)⟩
  · exact ⟨m5, by rw [ltI_f hm5]; rfl, by omega, fun h => ⟨k1 (by omega), k2 (by omega), k3 (by omega), k4 (by omega), k5 h⟩⟩

theorem plain3 : ∀ y : PTup i3, wfTs i3 y → ∃ b, r3 y = some ((true, ()), b) := by
  rintro ⟨a, b, _⟩ ⟨wa, wb, _⟩
  refine ⟨(), ?_⟩
  unfold r3 m3
  obtain ⟨m, e1, h1, k1⟩ := szLock_ok a 1048576 (by omega) (by omega) wa
  simp only [e1, Option.bind_some]
  by_cases hm : m < 0
  · rw [ltI_t hm]; rfl
  rw [ltI_f hm, cond_false]
  obtain ⟨n, e2, h2, k2⟩ := szLock_ok b m (by omega) (by omega) wb
  simp only [e2, Option.bind_some]
  by_cases hn : n < 0
  · rw [ltI_t hn]; rfl
  rw [ltI_f hn, cond_false]
  have oa := k1 (by omega)
  have ob := k2 (by omega)
  simp only [toLock_ok _ oa, toLock_ok _ ob, Option.bind_some, specLockSame_ok a b oa ob, implLockSame_ok a b oa, eqLock_self _ oa, eqLock_self _ ob, beq_self_eq_true, Bool.not_true, cond_false]

end Go.Proofs.Ytfafepmjpphfeaa.Plain
