/- What is seen is compared alike by the program and by the reference. No condition beyond those that each lemma states. -/
import Derived.Test.YtfafepmjpphfeaaPCp
set_option linter.unusedVariables false
set_option linter.unusedSimpArgs false
namespace Go.Proofs.Ytfafepmjpphfeaa.Plain
open Go Go.Tev

/-! ### rows of numbers -/

theorem begins_loop (a b : List Int) (h1 : a.length ≤ 1048576) : ∀ (k i : Nat), i ≤ a.length → i ≤ b.length → a.length - i < k →
    n64_0 k (a, (b, ())) () ((i : Int), ()) = if (a.drop i).take (b.length - i) = (b.drop i).take (a.length - i) then some (Sum.inl (((min a.length b.length : Nat) : Int), ()), ()) else some (Sum.inr (false, ()), ())
  | 0, _, _, _, h => absurd h (by omega)
  | k + 1, i, hi, hj, hk => by
    unfold n64_0 w64_0
    simp only [lenI_def]
    by_cases h : i < a.length
    · rw [ltI_t (show (i : Int) < (a.length : Int) by omega)]
      by_cases hb : i < b.length
      · rw [ltI_t (by omega), leI_t (by omega), rdE_nat .i a i h, rdE_nat .i b i hb, wI_succ (by omega)]
        simp only [cond_true]
        rw [drop_cons' h, drop_cons' hb, show b.length - i = (b.length - (i + 1)) + 1 by omega, show a.length - i = (a.length - (i + 1)) + 1 by omega, List.take_succ_cons, List.take_succ_cons]
        by_cases hx : a[i] = b[i]
        · rw [neI_f hx, cond_false, begins_loop a b h1 k (i + 1) (by omega) (by omega) (by omega)]
          simp only [List.cons.injEq, hx, true_and]
        · rw [neI_t hx, cond_true]
          simp only [List.cons.injEq, hx, false_and, if_false]
      · have : i = b.length := by omega
        subst this
        rw [ltI_f (by omega), cond_true, cond_false]
        simp only [Nat.sub_self, List.take_zero, List.drop_length, List.take_nil, if_true]
        rw [show min a.length b.length = b.length by omega]
    · have : i = a.length := by omega
      subst this
      rw [ltI_f (by omega), cond_false]
      simp only [Nat.sub_self, List.take_zero, List.drop_length, List.take_nil, if_true]
      rw [show min a.length b.length = a.length by omega]

/-- one row begins another -/
def beg {α : Type} [DecidableEq α] (a b : List α) : Bool := decide (a.length ≤ b.length ∧ a = b.take a.length)

theorem begins_ok (a b : List Int) (h1 : a.length ≤ 1048576) : r64 (a, (b, ())) = some ((beg a b, ()), ()) := by
  unfold r64 m64 L64_0
  simp only [lenI_def]
  have := begins_loop a b h1 fuel 0 (by omega) (by omega) (by have := fuel_big; omega)
  simp only [Int.natCast_zero, List.drop_zero, Nat.sub_zero] at this
  rw [this]
  by_cases e : a.take b.length = b.take a.length
  · rw [if_pos e]
    simp only [Option.bind_some, sumElim, leI_d, beg]
    by_cases hl : a.length ≤ b.length
    · rw [List.take_of_length_le hl] at e
      rw [decide_eq_true (show (a.length : Int) ≤ (b.length : Int) by omega), decide_eq_true ⟨hl, e⟩]
    · rw [decide_eq_false (show ¬ (a.length : Int) ≤ (b.length : Int) by omega), decide_eq_false (fun h => hl h.1)]
  · rw [if_neg e]
    simp only [Option.bind_some, sumElim, beg]
    rw [decide_eq_false]
    rintro ⟨hl, h⟩
    rw [List.take_of_length_le hl] at e
    exact e h

theorem beg_eq {α : Type} [DecidableEq α] {a b : List α} (h : a.length = b.length) : beg a b = decide (a = b) := by
  unfold beg
  congr 1
  rw [eq_iff_iff]
  constructor
  · rintro ⟨_, e⟩
    rw [e, h, List.take_length]
  · rintro rfl
    simp

theorem same_ok (a b : List Int) (h1 : a.length ≤ 1048576) : r24 (a, (b, ())) = some ((decide (a = b), ()), ()) := by
  unfold r24 m24
  simp only [lenI_def]
  by_cases h : a.length = b.length
  · rw [eqI_t (by omega), cond_true, begins_ok a b h1, beg_eq h]
    rfl
  · rw [eqI_f (by omega), cond_false, decide_eq_false (fun e => h (by rw [e]))]

theorem equal_loop (a b : List Int) (h1 : a.length ≤ 1048576) (hab : a.length = b.length) : ∀ (k i : Nat), i ≤ a.length → a.length - i < k →
    n67_0 k (a, (b, ((a.length : Int), ()))) () ((i : Int), ()) = if a.drop i = b.drop i then some (Sum.inl ((a.length : Int), ()), ()) else some (Sum.inr (false, ()), ())
  | 0, _, _, h => absurd h (by omega)
  | k + 1, i, hi, hk => by
    unfold n67_0 w67_0
    simp only [lenI_def]
    by_cases h : i < a.length
    · have hb : i < b.length := by omega
      rw [ltI_t (by omega), leI_t (by omega), ltI_t (by omega), rdE_nat .i a i h, rdE_nat .i b i hb, wI_succ (by omega)]
      simp only [cond_true]
      rw [drop_cons' h, drop_cons' hb]
      by_cases hx : a[i] = b[i]
      · rw [neI_f hx, cond_false, equal_loop a b h1 hab k (i + 1) (by omega) (by omega)]
        simp only [List.cons.injEq, hx, true_and]
      · rw [neI_t hx, cond_true]
        simp only [List.cons.injEq, hx, false_and, if_false]
    · have : i = a.length := by omega
      subst this
      rw [ltI_f (by omega)]
      simp [hab]

theorem equal_ok (a b : List Int) (h1 : a.length ≤ 1048576) : r67 (a, (b, ())) = some ((decide (a = b), ()), ()) := by
  unfold r67 m67 L67_0
  simp only [lenI_def]
  by_cases h : a.length = b.length
  · have := equal_loop a b h1 h fuel 0 (by omega) (by have := fuel_big; omega)
    simp only [Int.natCast_zero, List.drop_zero] at this
    rw [neI_f (by omega), cond_false, this]
    by_cases e : a = b <;> simp [e, sumElim]
  · rw [neI_t (by omega), cond_true]
    rw [show decide (a = b) = false from decide_eq_false (fun e => h (by rw [e]))]

/-! ### rows of rows -/

theorem equalF_loop (a b : List (List Int)) (h1 : small a) (hab : a.length = b.length) : ∀ (k i : Nat), i ≤ a.length → a.length - i < k →
    n68_0 r69 k (b, ((), (a, ((a.length : Int), ())))) () ((i : Int), ()) = if a.drop i = b.drop i then some (Sum.inl ((a.length : Int), ()), ()) else some (Sum.inr (false, ()), ())
  | 0, _, _, h => absurd h (by omega)
  | k + 1, i, hi, hk => by
    unfold n68_0 w68_0
    simp only [lenI_def]
    have := h1.1
    by_cases h : i < a.length
    · have hb : i < b.length := by omega
      rw [ltI_t (by omega), leI_t (by omega), ltI_t (by omega), rdE_nat .n a i h, rdE_nat .n b i hb, wI_succ (by omega)]
      rw [show r69 (a[i], (b[i], ())) = some ((decide (a[i] = b[i]), ()), ()) by
        unfold r69 m69
        rw [equal_ok _ _ (h1.2 _ (List.getElem_mem h))]
        rfl]
      simp only [cond_true, Option.bind_some]
      rw [drop_cons' h, drop_cons' hb]
      by_cases hx : a[i] = b[i]
      · rw [show (!decide (a[i] = b[i])) = false by simp [hx], cond_false, equalF_loop a b h1 hab k (i + 1) (by omega) (by omega)]
        simp only [List.cons.injEq, hx, true_and]
      · rw [show (!decide (a[i] = b[i])) = true by simpa using hx, cond_true]
        simp only [List.cons.injEq, hx, false_and, if_false]
    · have : i = a.length := by omega
      subst this
      rw [ltI_f (by omega)]
      simp [hab]

theorem equalF_ok (a b : List (List Int)) (h1 : small a) : r68 (a, (b, ((), ()))) = some ((decide (a = b), ()), ()) := by
  unfold r68 m68 L68_0
  simp only [lenI_def]
  have := h1.1
  by_cases h : a.length = b.length
  · have := equalF_loop a b h1 h fuel 0 (by omega) (by have := fuel_big; omega)
    simp only [Int.natCast_zero, List.drop_zero] at this
    rw [neI_f (by omega), cond_false, this]
    by_cases e : a = b <;> simp [e, sumElim]
  · rw [neI_t (by omega), cond_true]
    rw [show decide (a = b) = false from decide_eq_false (fun e => h (by rw [e]))]

theorem frames_loop (a b : Tup [.sl false .n, .sl false .i, .sl false .i]) (h1 : small a.1) (hab : a.1.length ≤ b.1.length) : ∀ (k i : Nat), i ≤ a.1.length → a.1.length - i < k →
    n65_0 r64 r24 k () (a, (b, ())) ((i : Int), ()) = if a.1.drop i = (b.1.drop i).take (a.1.length - i) then some (Sum.inl ((a.1.length : Int), ()), (a, (b, ()))) else some (Sum.inr (false, ()), (a, (b, ())))
  | 0, _, _, h => absurd h (by omega)
  | k + 1, i, hi, hk => by
    unfold n65_0 w65_0
    simp only [lenI_def]
    have := h1.1
    by_cases h : i < a.1.length
    · have hb : i < b.1.length := by omega
      rw [ltI_t (show (i : Int) < (a.1.length : Int) by omega), leI_t (by omega), ltI_t (show (i : Int) < (b.1.length : Int) by omega), rdE_nat .n a.1 i h, rdE_nat .n b.1 i hb, wI_succ (by omega), same_ok _ _ (h1.2 _ (List.getElem_mem h))]
      simp only [cond_true, Option.bind_some]
      rw [drop_cons' h, drop_cons' hb, show a.1.length - i = (a.1.length - (i + 1)) + 1 by omega, List.take_succ_cons]
      by_cases hx : a.1[i] = b.1[i]
      · rw [show (!decide (a.1[i] = b.1[i])) = false by simp [hx], cond_false, frames_loop a b h1 hab k (i + 1) (by omega) (by omega)]
        simp only [List.cons.injEq, hx, true_and]
      · rw [show (!decide (a.1[i] = b.1[i])) = true by simpa using hx, cond_true]
        simp only [List.cons.injEq, hx, false_and, if_false]
    · have : i = a.1.length := by omega
      subst this
      rw [ltI_f (by omega)]
      simp

abbrev obsL : List LT := [.sl false .n, .sl false .i, .sl false .i]
def obsOk (a : Tup obsL) : Prop := small a.1 ∧ a.2.1.length ≤ 1048576 ∧ a.2.2.1.length ≤ 1048576
/-- what one has seen begins what another has -/
def obsBeg (a b : Tup obsL) : Bool := beg a.1 b.1 && (beg a.2.1 b.2.1 && beg a.2.2.1 b.2.2.1)
def obsEq (a b : Tup obsL) : Bool := decide (a.1 = b.1) && (decide (a.2.1 = b.2.1) && decide (a.2.2.1 = b.2.2.1))

theorem specBegins_ok (a b : Tup obsL) (ha : obsOk a) : r65 (a, (b, ())) = some ((obsBeg a b, ()), ()) := by
  unfold r65 m65 L65_0
  obtain ⟨h1, h2, h3⟩ := ha
  simp only [lenI_def]
  have := h1.1
  by_cases h : b.1.length < a.1.length
  · rw [ltI_t (by omega), cond_true]
    have : beg a.1 b.1 = false := decide_eq_false (fun hh => by omega)
    simp only [obsBeg, this, Bool.false_and]
  · rw [ltI_f (by omega), cond_false, begins_ok _ _ h2]
    simp only [Option.bind_some, obsBeg]
    cases e1 : beg a.2.1 b.2.1 with
    | false => simp
    | true =>
      simp only [Bool.not_true, cond_false]
      rw [begins_ok _ _ h3]
      simp only [Option.bind_some]
      cases e2 : beg a.2.2.1 b.2.2.1 with
      | false => simp
      | true =>
        have := frames_loop a b h1 (by omega) fuel 0 (by omega) (by have := fuel_big; omega)
        simp only [Int.natCast_zero, List.drop_zero, Nat.sub_zero] at this
        simp only [Bool.not_true, cond_false, this, Bool.and_true]
        by_cases e : a.1 = b.1.take a.1.length
        · rw [if_pos e]
          simp only [Option.bind_some, sumElim, beg]
          rw [decide_eq_true ⟨by omega, e⟩]
        · rw [if_neg e]
          simp only [Option.bind_some, sumElim, beg]
          rw [decide_eq_false (fun hh => e hh.2)]

theorem beg_both {α : Type} [DecidableEq α] (a b : List α) : (beg a b && beg b a) = decide (a = b) := by
  by_cases h : a.length = b.length
  · rw [beg_eq h, beg_eq h.symm]
    by_cases e : a = b
    · subst e; simp
    · simp [e]
  · rw [show decide (a = b) = false from decide_eq_false (fun e => h (by rw [e]))]
    rcases Nat.lt_or_gt_of_ne h with h | h
    · rw [show beg b a = false from decide_eq_false (fun hh => by omega), Bool.and_false]
    · rw [show beg a b = false from decide_eq_false (fun hh => by omega), Bool.false_and]

theorem obsBeg_both (a b : Tup obsL) : (obsBeg a b && obsBeg b a) = obsEq a b := by
  unfold obsBeg obsEq
  rw [← beg_both a.1 b.1, ← beg_both a.2.1 b.2.1, ← beg_both a.2.2.1 b.2.2.1]
  cases beg a.1 b.1 <;> cases beg b.1 a.1 <;> cases beg a.2.1 b.2.1 <;> cases beg b.2.1 a.2.1 <;> simp

theorem specSame_ok (a b : Tup obsL) (ha : obsOk a) (hb : obsOk b) : r26 (a, (b, ())) = some ((obsEq a b, ()), ()) := by
  unfold r26 m26
  rw [specBegins_ok a b ha]
  simp only [Option.bind_some]
  rw [← obsBeg_both]
  cases e : obsBeg a b with
  | false => simp
  | true => rw [cond_true, specBegins_ok b a hb]; simp

theorem implSame_ok (a b : Tup obsL) (ha : obsOk a) : r37 (a, (b, ())) = some ((obsEq a b, ()), ()) := by
  unfold r37 m37
  obtain ⟨h1, h2, h3⟩ := ha
  rw [equalF_ok _ _ h1]
  simp only [Option.bind_some, obsEq]
  by_cases e1 : a.1 = b.1
  · rw [decide_eq_true e1, cond_true, equal_ok _ _ h2]
    simp only [Option.bind_some]
    by_cases e2 : a.2.1 = b.2.1
    · rw [decide_eq_true e2, cond_true, equal_ok _ _ h3]
      simp
    · rw [decide_eq_false e2]
      simp
  · rw [decide_eq_false e1]
    simp

theorem beg_take {α : Type} [DecidableEq α] (a b : List α) (h : a.length ≤ b.length) : decide (a = b.take a.length) = beg a b := by
  unfold beg
  congr 1
  rw [eq_iff_iff]
  exact ⟨fun e => ⟨h, e⟩, fun e => e.2⟩

/-! ### the law's own functions -/

theorem toObs_ok (a : Tup obsL) (ha : obsOk a) : r34 (a, ()) = some ((a, ()), ()) := by
  unfold r34 m34
  obtain ⟨h1, h2, h3⟩ := ha
  simp only [toIntSS_ok _ h1, toIntS_ok _ h2, Option.bind_some]
  rw [show r28 a.2.2 = some ((a.2.2.1, ()), ()) from toIntS_ok _ h3]
  rfl

theorem eqObs_ok (a b : Tup obsL) (ha : obsOk a) : r14 (a, (b, ())) = some ((obsEq a b, ()), ()) := by
  unfold r14 m14
  obtain ⟨h1, h2, h3⟩ := ha
  rw [eqIntSS_ok _ _ h1]
  simp only [Option.bind_some, obsEq]
  by_cases e1 : a.1 = b.1
  · simp only [e1, decide_true, Bool.not_true, cond_false]
    rw [eqIntS_ok _ _ h2]
    simp only [Option.bind_some]
    by_cases e2 : a.2.1 = b.2.1
    · simp only [e2, decide_true, Bool.not_true, cond_false]
      rw [eqIntS_ok _ _ h3]
      simp only [Option.bind_some]
      by_cases e3 : a.2.2.1 = b.2.2.1 <;> simp [e3]
    · simp [e2]
  · simp [e1]

theorem obsEq_self (a : Tup obsL) : obsEq a a = true := by simp [obsEq]

/-- as much as is left -/
theorem szObs_ok (a : Tup obsL) (n : Int) (h0 : 0 ≤ n) (h1 : n ≤ 1048576) (hw : wfLs obsL a) :
    ∃ m : Int, r23 (a, (n, ())) = some ((m, ()), ()) ∧ m ≤ n ∧ (0 ≤ m → obsOk a) := by
  unfold r23 m23
  obtain ⟨⟨w1, w2⟩, ⟨w3, _⟩, ⟨w4, _⟩, _⟩ := hw
  rw [szIntSS_ok _ n h0 h1 w1 (fun l hl => (w2 l hl).1)]
  simp only [Option.bind_some]
  by_cases e1 : n < ((a.1.length + bulk a.1 : Nat) : Int)
  · refine ⟨-1, ?_, by omega, fun h => absurd h (by decide)⟩
    simp only [left, e1, if_true]
    rfl
  · simp only [left, e1, if_false]
    rw [ltI_f (by omega), cond_false, szIntS_ok _ _ (by omega) (by omega) w3]
    simp only [Option.bind_some]
    by_cases e2 : n - ((a.1.length + bulk a.1 : Nat) : Int) < (a.2.1.length : Int)
    · refine ⟨-1, ?_, by omega, fun h => absurd h (by decide)⟩
      simp only [left, e2, if_true]
      rfl
    · simp only [left, e2, if_false]
      rw [ltI_f (by omega), cond_false, szIntS_ok _ _ (by omega) (by omega) w4]
      simp only [Option.bind_some]
      by_cases e3 : n - ((a.1.length + bulk a.1 : Nat) : Int) - (a.2.1.length : Int) < (a.2.2.1.length : Int)
      · refine ⟨-1, ?_, by omega, fun h => absurd h (by decide)⟩
        simp only [left, e3, if_true]
        rfl
      · refine ⟨n - ((a.1.length + bulk a.1 : Nat) : Int) - (a.2.1.length : Int) - (a.2.2.1.length : Int), ?_, by omega, fun h => ⟨⟨by omega, fun l hl => ?_⟩, by omega, by omega⟩⟩
        · simp only [left, e3, if_false]
          rw [ltI_f (by omega)]
          rfl
        · have := bulk_mem hl
          omega

end Go.Proofs.Ytfafepmjpphfeaa.Plain
