/- What is seen is compared alike by the program and by the reference. No condition beyond those that each lemma states. -/
import Derived.Test.YtfafepmjpphfeaaGreatPCp
set_option linter.unusedVariables false
set_option linter.unusedSimpArgs false
namespace Go.Proofs.YtfafepmjpphfeaaGreat.Plain
open Go Go.Tev

/-! ### rows of numbers -/

/-- one row begins another -/
def beg {α : Type} [DecidableEq α] (a b : List α) : Bool := decide (a.length ≤ b.length ∧ a = b.take a.length)

theorem beg_eq {α : Type} [DecidableEq α] {a b : List α} (h : a.length = b.length) : beg a b = decide (a = b) := by
  unfold beg
  congr 1
  rw [eq_iff_iff]
  constructor
  · rintro ⟨_, e⟩
    rw [e, h, List.take_length]
  · rintro rfl
    simp

/-! ### rows of rows -/

abbrev obsL : List LT := [.sl false .n, .sl false .i, .sl false .i]
def obsOk (a : Tup obsL) : Prop := small a.1 ∧ a.2.1.length ≤ 4398046511104 ∧ a.2.2.1.length ≤ 4398046511104
/-- what one has seen begins what another has -/
def obsBeg (a b : Tup obsL) : Bool := beg a.1 b.1 && (beg a.2.1 b.2.1 && beg a.2.2.1 b.2.2.1)
def obsEq (a b : Tup obsL) : Bool := decide (a.1 = b.1) && (decide (a.2.1 = b.2.1) && decide (a.2.2.1 = b.2.2.1))

theorem beg_both {α : Type} [DecidableEq α] (a b : List α) : (beg a b && beg b a) = decide (a = b) := by
  by_cases h : a.length = b.length
  · rw [beg_eq h, beg_eq h.symm]
    by_cases e : a = b
    · subst e; simp
    · simp [e]
  · rw [show decide (a = b) = false from decide_eq_false (fun e => h (by rw [e]))]
    rcases Nat.lt_or_gt_of_ne h with h | h
    · rw [show beg b a = false from decide_eq_false (fun hh => by omega), Bool.and_false]
    · rw [show beg a b = false from decide_eq_false (fun hh => by omega), Bool.false_and]

theorem obsBeg_both (a b : Tup obsL) : (obsBeg a b && obsBeg b a) = obsEq a b := by
  unfold obsBeg obsEq
  rw [← beg_both a.1 b.1, ← beg_both a.2.1 b.2.1, ← beg_both a.2.2.1 b.2.2.1]
  cases beg a.1 b.1 <;> cases beg b.1 a.1 <;> cases beg a.2.1 b.2.1 <;> cases beg b.2.1 a.2.1 <;> simp

theorem beg_take {α : Type} [DecidableEq α] (a b : List α) (h : a.length ≤ b.length) : decide (a = b.take a.length) = beg a b := by
  unfold beg
  congr 1
  rw [eq_iff_iff]
  exact ⟨fun e => ⟨h, e⟩, fun e => e.2⟩

/-! ### the law's own functions -/

theorem eqObs_ok (a b : Tup obsL) (ha : obsOk a) : r44 (a, (b, ())) = some ((obsEq a b, ()), ()) := by
  unfold r44 m44
  obtain ⟨h1, h2, h3⟩ := ha
  rw [eqIntSS_ok _ _ h1]
  simp only [Option.bind_some, obsEq]
  by_cases e1 : a.1 = b.1
  · simp only [e1, decide_true, Bool.not_true, cond_false]
    rw [eqIntS_ok _ _ h2]
    simp only [Option.bind_some]
    by_cases e2 : a.2.1 = b.2.1
    · simp only [e2, decide_true, Bool.not_true, cond_false]
      rw [eqIntS_ok _ _ h3]
      simp only [Option.bind_some]
      by_cases e3 : a.2.2.1 = b.2.2.1 <;> simp [e3]
    · simp [e2]
  · simp [e1]

theorem obsEq_self (a : Tup obsL) : obsEq a a = true := by simp [obsEq]

end Go.Proofs.YtfafepmjpphfeaaGreat.Plain
