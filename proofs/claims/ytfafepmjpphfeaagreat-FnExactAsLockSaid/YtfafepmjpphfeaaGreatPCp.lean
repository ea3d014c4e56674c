/- Copies, comparisons and sizes of rows of numbers, as the program has them. No condition beyond those that each lemma states. -/
import Derived.Test.YtfafepmjpphfeaaGreatUk
import Derived.Test.YtfafepmjpphfeaaGreatFn1
set_option linter.unusedVariables false
set_option linter.unusedSimpArgs false
namespace Go.Proofs.YtfafepmjpphfeaaGreat.Plain
open Go Go.Tev

/-! ### copies -/

theorem toIntS_loop (l : List Int) (hl : l.length ≤ 4398046511104) : ∀ (k i : Nat) (out : List Int), i ≤ l.length → out.length = l.length → l.length - i < k →
    n26_0 k (l, ()) () ((i : Int), (out, ())) = some (Sum.inl ((l.length : Int), (out.take i ++ l.drop i, ())), ())
  | 0, _, _, _, _, h => absurd h (by omega)
  | k + 1, i, out, hi, ho, hk => by
    unfold n26_0 w26_0
    simp only [lenI_def]
    by_cases h : i < l.length
    · rw [ltI_t (by omega), leI_t (by omega), ltI_t (by omega), rdE_nat .i l i h, wI_succ (by omega)]
      simp only [cond_true, Int.toNat_natCast]
      rw [toIntS_loop l hl k (i + 1) _ (by omega) (by simpa using ho) (by omega), take_set h ho]
    · have : i = l.length := by omega
      subst this
      rw [ltI_f (by omega), cond_false, List.take_of_length_le (by omega), List.drop_length, List.append_nil]

theorem toIntS_ok (l : List Int) (hl : l.length ≤ 4398046511104) : r26 (l, ()) = some ((l, ()), ()) := by
  unfold r26 m26 L26_0
  simp only [lenI_def, Int.toNat_natCast]
  rw [leN_t (by simp only [E.most]; omega)]
  have := toIntS_loop l hl fuel 0 (List.replicate l.length 0) (by omega) (by simp) (by have := fuel_big; omega)
  simp only [Int.natCast_zero] at this
  simp only [cond_true, this]
  simp [sumElim]

/-- the bulk of rows -/
def bulk : List (List Int) → Nat | [] => 0 | l :: f => l.length + bulk f

/-- rows of rows, not too long -/
def small (f : List (List Int)) : Prop := f.length ≤ 4398046511104 ∧ (∀ l, l ∈ f → l.length ≤ 4398046511104) ∧ bulk f ≤ 4398046511104

theorem toIntSS_loop (l : List (List Int)) (hl : small l) : ∀ (k i : Nat) (out : List (List Int)), i ≤ l.length → out.length = l.length → l.length - i < k →
    n71_0 r26 k (l, ()) () ((i : Int), (out, ())) = some (Sum.inl ((l.length : Int), (out.take i ++ l.drop i, ())), ())
  | 0, _, _, _, _, h => absurd h (by omega)
  | k + 1, i, out, hi, ho, hk => by
    unfold n71_0 w71_0
    simp only [lenI_def]
    have := hl.1
    by_cases h : i < l.length
    · rw [ltI_t (by omega), leI_t (by omega), ltI_t (by omega), rdE_nat .n l i h, wI_succ (by omega), toIntS_ok _ (hl.2.1 _ (List.getElem_mem h))]
      simp only [cond_true, Int.toNat_natCast, Option.bind_some]
      rw [toIntSS_loop l hl k (i + 1) _ (by omega) (by simpa using ho) (by omega), take_set h ho]
    · have : i = l.length := by omega
      subst this
      rw [ltI_f (by omega), cond_false, List.take_of_length_le (by omega), List.drop_length, List.append_nil]

theorem toIntSS_ok (l : List (List Int)) (hl : small l) : r71 (l, ()) = some ((l, ()), ()) := by
  unfold r71 m71 L71_0
  simp only [lenI_def, Int.toNat_natCast]
  have := hl.1
  rw [leN_t (by simp only [E.most]; omega)]
  have := toIntSS_loop l hl fuel 0 (List.replicate l.length []) (by omega) (by simp) (by have := fuel_big; omega)
  simp only [Int.natCast_zero] at this
  simp only [cond_true, this]
  simp [sumElim]

/-! ### comparisons -/

theorem eqIntS_loop (a b : List Int) (h1 : a.length ≤ 4398046511104) (hab : a.length = b.length) : ∀ (k i : Nat), i ≤ a.length → a.length - i < k →
    n38_0 k (a, (b, ())) () ((i : Int), ()) = if a.drop i = b.drop i then some (Sum.inl ((a.length : Int), ()), ()) else some (Sum.inr (false, ()), ())
  | 0, _, _, h => absurd h (by omega)
  | k + 1, i, hi, hk => by
    unfold n38_0 w38_0
    simp only [lenI_def]
    by_cases h : i < a.length
    · have hb : i < b.length := by omega
      rw [ltI_t (by omega), leI_t (by omega), ltI_t (by omega), rdE_nat .i a i h, rdE_nat .i b i hb, wI_succ (by omega)]
      simp only [cond_true]
      rw [drop_cons' h, drop_cons' hb]
      by_cases hx : a[i] = b[i]
      · rw [neI_f hx, cond_false, eqIntS_loop a b h1 hab k (i + 1) (by omega) (by omega)]
        simp only [List.cons.injEq, hx, true_and]
      · rw [neI_t hx, cond_true]
        simp only [List.cons.injEq, hx, false_and, if_false]
    · have : i = a.length := by omega
      subst this
      rw [ltI_f (by omega)]
      simp [hab]

theorem eqIntS_ok (a b : List Int) (h1 : a.length ≤ 4398046511104) : r38 (a, (b, ())) = some ((decide (a = b), ()), ()) := by
  unfold r38 m38 L38_0
  simp only [lenI_def]
  by_cases h : a.length = b.length
  · have := eqIntS_loop a b h1 h fuel 0 (by omega) (by have := fuel_big; omega)
    simp only [Int.natCast_zero, List.drop_zero] at this
    rw [neI_f (by omega), cond_false, this]
    by_cases e : a = b <;> simp [e, sumElim]
  · rw [neI_t (by omega), cond_true]
    rw [show decide (a = b) = false from decide_eq_false (fun e => h (by rw [e]))]

theorem eqIntSS_loop (a b : List (List Int)) (h1 : small a) (hab : a.length = b.length) : ∀ (k i : Nat), i ≤ a.length → a.length - i < k →
    n90_0 r38 k (a, (b, ())) () ((i : Int), ()) = if a.drop i = b.drop i then some (Sum.inl ((a.length : Int), ()), ()) else some (Sum.inr (false, ()), ())
  | 0, _, _, h => absurd h (by omega)
  | k + 1, i, hi, hk => by
    unfold n90_0 w90_0
    simp only [lenI_def]
    have := h1.1
    by_cases h : i < a.length
    · have hb : i < b.length := by omega
      rw [ltI_t (by omega), leI_t (by omega), ltI_t (by omega), rdE_nat .n a i h, rdE_nat .n b i hb, wI_succ (by omega), eqIntS_ok _ _ (h1.2.1 _ (List.getElem_mem h))]
      simp only [cond_true, Option.bind_some]
      rw [drop_cons' h, drop_cons' hb]
      by_cases hx : a[i] = b[i]
      · rw [show (!decide (a[i] = b[i])) = false by simp [hx], cond_false, eqIntSS_loop a b h1 hab k (i + 1) (by omega) (by omega)]
        simp only [List.cons.injEq, hx, true_and]
      · rw [show (!decide (a[i] = b[i])) = true by simpa using hx, cond_true]
        simp only [List.cons.injEq, hx, false_and, if_false]
    · have : i = a.length := by omega
      subst this
      rw [ltI_f (by omega)]
      simp [hab]

theorem eqIntSS_ok (a b : List (List Int)) (h1 : small a) : r90 (a, (b, ())) = some ((decide (a = b), ()), ()) := by
  unfold r90 m90 L90_0
  simp only [lenI_def]
  have := h1.1
  by_cases h : a.length = b.length
  · have := eqIntSS_loop a b h1 h fuel 0 (by omega) (by have := fuel_big; omega)
    simp only [Int.natCast_zero, List.drop_zero] at this
    rw [neI_f (by omega), cond_false, this]
    by_cases e : a = b <;> simp [e, sumElim]
  · rw [neI_t (by omega), cond_true]
    rw [show decide (a = b) = false from decide_eq_false (fun e => h (by rw [e]))]

/-! ### sizes -/

/-- what is left when something of a size is taken away: a number that is not below 0, or -1 -/
def left (n : Int) (k : Nat) : Int := if n < (k : Int) then -1 else n - (k : Int)

theorem szIntS_ok (a : List Int) (n : Int) (h0 : 0 ≤ n) (h1 : n ≤ 1048576) (hl : a.length ≤ maxLen) : r14 (a, (n, ())) = some ((left n a.length, ()), ()) := by
  unfold r14 m14
  simp only [lenI_def]
  have : maxLen = 9223372036854775807 := rfl
  rw [wI_id (by omega) (by omega)]
  by_cases h : n < (a.length : Int)
  · rw [ltI_t (show n - (a.length : Int) < 0 by omega)]; simp [left, h]
  · rw [ltI_f (by omega)]; simp [left, h]

theorem szIntSS_loop (a : List (List Int)) (hw : ∀ l, l ∈ a → l.length ≤ maxLen) : ∀ (k i : Nat) (n : Int), a.length ≤ 4398046511104 → i ≤ a.length → a.length - i < k → 0 ≤ n → n ≤ 1048576 →
    n59_0 r14 k (a, ()) () (n, ((i : Int), ())) = if n < (bulk (a.drop i) : Int) then some (Sum.inr (-1, ()), ()) else some (Sum.inl (n - (bulk (a.drop i) : Int), ((a.length : Int), ())), ())
  | 0, _, _, _, _, h, _, _ => absurd h (by omega)
  | k + 1, i, n, ha, hi, hk, h0, h1 => by
    unfold n59_0 w59_0
    simp only [lenI_def]
    by_cases h : i < a.length
    · rw [ltI_t (by omega), leI_t (by omega), rdE_nat .n a i h, wI_succ (by omega), szIntS_ok _ n h0 h1 (hw _ (List.getElem_mem h))]
      simp only [cond_true, Option.bind_some, drop_cons' h, bulk]
      by_cases hx : n < (a[i].length : Int)
      · simp only [left, hx, if_true]
        rw [if_pos (by omega)]
        rfl
      · simp only [left, hx, if_false]
        rw [ltI_f (by omega), cond_false, szIntSS_loop a hw k (i + 1) _ ha (by omega) (by omega) (by omega) (by omega)]
        by_cases hy : n < (a[i].length : Int) + (bulk (a.drop (i + 1)) : Int)
        · rw [if_pos (by omega), if_pos (by omega)]
        · rw [if_neg (by omega), if_neg (by omega)]
          simp only [Option.some.injEq, Prod.mk.injEq, Sum.inl.injEq, and_true]
          omega
    · have : i = a.length := by omega
      subst this
      rw [ltI_f (by omega)]
      simp [bulk]
      omega

theorem szIntSS_ok (a : List (List Int)) (n : Int) (h0 : 0 ≤ n) (h1 : n ≤ 1048576) (hl : a.length ≤ maxLen) (hw : ∀ l, l ∈ a → l.length ≤ maxLen) :
    r59 (a, (n, ())) = some ((left n (a.length + bulk a), ()), ()) := by
  unfold r59 m59 L59_0
  simp only [lenI_def]
  have : maxLen = 9223372036854775807 := rfl
  rw [wI_id (by omega) (by omega)]
  by_cases h : n < (a.length : Int)
  · rw [ltI_t (show n - (a.length : Int) < 0 by omega), cond_true]
    simp only [left]
    rw [if_pos (by omega)]
  · rw [ltI_f (by omega), cond_false]
    have := szIntSS_loop a hw fuel 0 (n - (a.length : Int)) (by omega) (by omega) (by have := fuel_big; omega) (by omega) (by omega)
    simp only [Int.natCast_zero, List.drop_zero] at this
    rw [this]
    by_cases hy : n < (a.length : Int) + (bulk a : Int)
    · rw [if_pos (by omega)]
      simp only [Option.bind_some, sumElim, left]
      rw [if_pos (by omega)]
    · rw [if_neg (by omega)]
      simp only [Option.bind_some, sumElim, left]
      rw [if_neg (by omega)]
      simp only [Option.some.injEq, Prod.mk.injEq, and_true]
      show n - (a.length : Int) - (bulk a : Int) = n - ((a.length + bulk a : Nat) : Int)
      omega

theorem bulk_mem : ∀ {f : List (List Int)} {l : List Int}, l ∈ f → l.length ≤ bulk f
  | x :: f, l, h => by
    cases h with
    | head => simp only [bulk]; omega
    | tail _ h => have := bulk_mem h; simp only [bulk]; omega

end Go.Proofs.YtfafepmjpphfeaaGreat.Plain
