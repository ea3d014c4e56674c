/- Rows of numbers that are written over with numbers that go up, and held against them. No condition beyond those that each lemma states. -/
import Derived.Test.YtfafepmjpphfeaaGreatPCp
set_option linter.unusedVariables false
set_option linter.unusedSimpArgs false
namespace Go.Proofs.YtfafepmjpphfeaaGreat.Plain
open Go Go.Tev

/-- numbers that go up -/
def nums (k : Int) : Nat → List Int | 0 => [] | n + 1 => k :: nums (k + 1) n
theorem nums_len : ∀ (n : Nat) (k : Int), (nums k n).length = n
  | 0, _ => rfl
  | n + 1, k => by simp [nums, nums_len n]

theorem take_set1 {α : Type} {out : List α} {i : Nat} (h : i < out.length) (x : α) : (out.set i x).take (i + 1) = out.take i ++ [x] := by
  apply List.ext_getElem?
  intro j
  rcases Nat.lt_trichotomy j i with hj | hj | hj
  · rw [List.getElem?_append_left (by simp; omega), List.getElem?_take_of_lt (by omega), List.getElem?_take_of_lt hj, List.getElem?_set_ne (by omega)]
  · subst hj
    rw [List.getElem?_append_right (by simp; omega), List.getElem?_take_of_lt (by omega), List.getElem?_set_self h]
    simp [Nat.min_eq_left (Nat.le_of_lt h)]
  · rw [List.getElem?_eq_none (by simp; omega), List.getElem?_eq_none (by simp; omega)]

theorem drop_set1 {α : Type} {out : List α} {i : Nat} (x : α) : (out.set i x).drop (i + 1) = out.drop (i + 1) := by
  apply List.ext_getElem?
  intro j
  rw [List.getElem?_drop, List.getElem?_drop, List.getElem?_set_ne (by omega)]

theorem wI_up {k : Int} (h0 : 0 ≤ k) (h : k < 4611686018427387904) : wI (k + 1) = k + 1 := wI_id (by omega) (by omega)

theorem markIntS_loop : ∀ (f i : Nat) (out : List Int) (k : Int), i ≤ out.length → out.length - i < f → 0 ≤ k → k + ((out.length : Int) - (i : Int)) ≤ 4611686018427387904 → (out.length : Int) ≤ 4611686018427387904 →
    n48_0 f () () (k, ((i : Int), (out, ()))) = some (Sum.inl (k + ((out.length : Int) - (i : Int)), ((out.length : Int), (out.take i ++ nums k (out.length - i), ()))), ())
  | 0, _, _, _, _, h, _, _, _ => absurd h (by omega)
  | f + 1, i, out, k, hi, hf, h0, h1, h2 => by
    unfold n48_0 w48_0
    simp only [lenI_def]
    by_cases h : i < out.length
    · rw [ltI_t (by omega), leI_t (by omega), wI_succ (by omega), wI_up h0 (by omega)]
      simp only [cond_true, Int.toNat_natCast]
      rw [markIntS_loop f (i + 1) (out.set i k) (k + 1) (by simp; omega) (by simp; omega) (by omega) (by simp; omega) (by simpa using h2), take_set1 h]
      simp only [List.length_set]
      rw [show out.length - i = (out.length - (i + 1)) + 1 by omega, nums, show k + 1 + ((out.length : Int) - ((i + 1 : Nat) : Int)) = k + ((out.length : Int) - (i : Int)) by omega]
      simp
    · have : i = out.length := by omega
      subst this
      rw [ltI_f (by omega), cond_false]
      simp [nums]

theorem markIntS_ok (l : List Int) (k : Int) (h0 : 0 ≤ k) (h : k + (l.length : Int) ≤ 4611686018427387904) : r48 (l, (k, ())) = some ((k + (l.length : Int), (nums k l.length, ())), ()) := by
  unfold r48 m48 L48_0
  have := markIntS_loop fuel 0 l k (by omega) (by have := fuel_big; omega) h0 (by omega) (by omega)
  simp only [Int.natCast_zero, Int.sub_zero, Nat.sub_zero, List.take_zero, List.nil_append] at this
  simp only [this]
  rfl

theorem heldIntS_loop (l : List Int) (hl : (l.length : Int) ≤ 4611686018427387904) : ∀ (f i : Nat) (k : Int), i ≤ l.length → l.length - i < f → 0 ≤ k → k + ((l.length : Int) - (i : Int)) ≤ 4611686018427387904 → l.drop i = nums k (l.length - i) →
    n55_0 f (l, ()) () (k, ((i : Int), ())) = some (Sum.inl (k + ((l.length : Int) - (i : Int)), ((l.length : Int), ())), ())
  | 0, _, _, _, h, _, _, _ => absurd h (by omega)
  | f + 1, i, k, hi, hf, h0, h1, hd => by
    unfold n55_0 w55_0
    simp only [lenI_def]
    by_cases h : i < l.length
    · rw [drop_cons' h, show l.length - i = (l.length - (i + 1)) + 1 by omega, nums] at hd
      simp only [List.cons.injEq] at hd
      rw [ltI_t (by omega), leI_t (by omega), rdE_nat .i l i h, neI_f hd.1, wI_succ (by omega), wI_up h0 (by omega)]
      simp only [cond_true, cond_false]
      rw [heldIntS_loop l hl f (i + 1) (k + 1) (by omega) (by omega) (by omega) (by omega) hd.2, show k + 1 + ((l.length : Int) - ((i + 1 : Nat) : Int)) = k + ((l.length : Int) - (i : Int)) by omega]
    · have : i = l.length := by omega
      subst this
      rw [ltI_f (by omega), cond_false]
      simp

theorem heldIntS_ok (n : Nat) (k : Int) (h0 : 0 ≤ k) (h : k + (n : Int) ≤ 4611686018427387904) : r55 (nums k n, (k, ())) = some ((k + (n : Int), ()), ()) := by
  unfold r55 m55 L55_0
  have := heldIntS_loop (nums k n) (by rw [nums_len]; omega) fuel 0 k (by omega) (by have := fuel_big; rw [nums_len]; omega) h0 (by rw [nums_len]; omega) (by simp [nums_len])
  simp only [Int.natCast_zero, Int.sub_zero, nums_len] at this
  simp only [this]
  rfl

/-- rows of rows, written over -/
def numss (k : Int) : List (List Int) → List (List Int) | [] => [] | l :: f => nums k l.length :: numss (k + (l.length : Int)) f
theorem numss_len : ∀ (f : List (List Int)) (k : Int), (numss k f).length = f.length
  | [], _ => rfl
  | l :: f, k => by simp [numss, numss_len f]

theorem markIntSS_loop : ∀ (f i : Nat) (out : List (List Int)) (k : Int), i ≤ out.length → out.length - i < f → 0 ≤ k → k + (bulk (out.drop i) : Int) ≤ 4611686018427387904 → (out.length : Int) ≤ 4611686018427387904 →
    n92_0 r48 f () () (k, ((i : Int), (out, ()))) = some (Sum.inl (k + (bulk (out.drop i) : Int), ((out.length : Int), (out.take i ++ numss k (out.drop i), ()))), ())
  | 0, _, _, _, _, h, _, _, _ => absurd h (by omega)
  | f + 1, i, out, k, hi, hf, h0, h1, h2 => by
    unfold n92_0 w92_0
    simp only [lenI_def]
    by_cases h : i < out.length
    · rw [drop_cons' h] at h1 ⊢
      simp only [bulk] at h1 ⊢
      rw [ltI_t (by omega), leI_t (by omega), rdE_nat .n out i h, wI_succ (by omega), markIntS_ok _ k h0 (by omega)]
      simp only [cond_true, Int.toNat_natCast, Option.bind_some]
      have e := drop_set1 (out := out) (i := i) (nums k out[i].length)
      rw [markIntSS_loop f (i + 1) (out.set i (nums k out[i].length)) (k + (out[i].length : Int)) (by simp; omega) (by simp; omega) (by omega) (by rw [e]; omega) (by simpa using h2), take_set1 h, e]
      simp only [List.length_set, numss]
      rw [show k + (out[i].length : Int) + (bulk (out.drop (i + 1)) : Int) = k + ((out[i].length + bulk (out.drop (i + 1)) : Nat) : Int) by omega]
      simp
    · have : i = out.length := by omega
      subst this
      rw [ltI_f (by omega), cond_false]
      simp [numss, bulk]

theorem markIntSS_ok (l : List (List Int)) (k : Int) (h0 : 0 ≤ k) (h : k + (bulk l : Int) ≤ 4611686018427387904) (hl : (l.length : Int) ≤ 4611686018427387904) : r92 (l, (k, ())) = some ((k + (bulk l : Int), (numss k l, ())), ()) := by
  unfold r92 m92 L92_0
  have := markIntSS_loop fuel 0 l k (by omega) (by have := fuel_big; omega) h0 (by simpa using h) (by omega)
  simp only [Int.natCast_zero, List.drop_zero, List.take_zero, List.nil_append] at this
  simp only [this]
  rfl

theorem heldIntSS_loop (a : List (List Int)) (ha : (a.length : Int) ≤ 4611686018427387904) : ∀ (f i : Nat) (g : List (List Int)) (k : Int), i ≤ a.length → a.length - i < f → 0 ≤ k → k + (bulk g : Int) ≤ 4611686018427387904 → a.drop i = numss k g →
    n94_0 r55 f (a, ()) () (k, ((i : Int), ())) = some (Sum.inl (k + (bulk g : Int), ((a.length : Int), ())), ())
  | 0, _, _, _, _, h, _, _, _ => absurd h (by omega)
  | f + 1, i, g, k, hi, hf, h0, h1, hd => by
    unfold n94_0 w94_0
    simp only [lenI_def]
    by_cases h : i < a.length
    · rw [drop_cons' h] at hd
      cases g with
      | nil => exact absurd hd (List.cons_ne_nil _ _)
      | cons l g =>
        simp only [numss, List.cons.injEq] at hd
        simp only [bulk] at h1 ⊢
        rw [ltI_t (by omega), leI_t (by omega), rdE_nat .n a i h, hd.1, heldIntS_ok l.length k h0 (by omega), wI_succ (by omega)]
        simp only [cond_true, Option.bind_some]
        rw [ltI_f (show ¬ k + (l.length : Int) < 0 by omega), cond_false, heldIntSS_loop a ha f (i + 1) g (k + (l.length : Int)) (by omega) (by omega) (by omega) (by omega) hd.2]
        rw [show k + (l.length : Int) + (bulk g : Int) = k + ((l.length + bulk g : Nat) : Int) by omega]
    · have : i = a.length := by omega
      subst this
      rw [List.drop_length] at hd
      cases g with
      | nil =>
        rw [ltI_f (by omega), cond_false]
        simp [bulk]
      | cons l g => simp [numss] at hd

theorem heldIntSS_ok (l : List (List Int)) (k : Int) (h0 : 0 ≤ k) (h : k + (bulk l : Int) ≤ 4611686018427387904) (hl : (l.length : Int) ≤ 4611686018427387904) : r94 (numss k l, (k, ())) = some ((k + (bulk l : Int), ()), ()) := by
  unfold r94 m94 L94_0
  have := heldIntSS_loop (numss k l) (by rw [numss_len]; omega) fuel 0 l k (by omega) (by have := fuel_big; rw [numss_len]; omega) h0 h (by simp)
  simp only [Int.natCast_zero, numss_len] at this
  simp only [this]
  rfl

/-- records, written over -/
def recs (k : Int) : Nat → List (Int × Int × Int) | 0 => [] | n + 1 => (k, k + 1, k + 2) :: recs (k + 3) n
theorem recs_len : ∀ (n : Nat) (k : Int), (recs k n).length = n
  | 0, _ => rfl
  | n + 1, k => by simp [recs, recs_len n]

theorem rdE_set (l : List (Int × Int × Int)) (i : Nat) (x : Int × Int × Int) (h : i < l.length) : rdE .t (l.set i x) (i : Int) = x := by
  rw [rdE_nat .t _ i (by simpa using h)]
  simp

theorem markRecS_loop : ∀ (f i : Nat) (out : List (Int × Int × Int)) (k : Int), i ≤ out.length → out.length - i < f → 0 ≤ k → k + 3 * ((out.length : Int) - (i : Int)) ≤ 4611686018427387904 → (out.length : Int) ≤ 4611686018427387904 →
    n112_0 f () () (k, ((i : Int), (out, ()))) = some (Sum.inl (k + 3 * ((out.length : Int) - (i : Int)), ((out.length : Int), (out.take i ++ recs k (out.length - i), ()))), ())
  | 0, _, _, _, _, h, _, _, _ => absurd h (by omega)
  | f + 1, i, out, k, hi, hf, h0, h1, h2 => by
    unfold n112_0 w112_0
    simp only [lenI_def, Int.toNat_natCast, List.length_set]
    by_cases h : i < out.length
    · have e1 : wI (k + 1) = k + 1 := wI_up h0 (by omega)
      have e2 : wI (k + 1 + 1) = k + 2 := by rw [wI_up (by omega) (by omega)]; omega
      have e3 : wI (k + 2 + 1) = k + 3 := by rw [wI_up (by omega) (by omega)]; omega
      rw [ltI_t (by omega), leI_t (by omega), wI_succ (by omega)]
      simp only [cond_true, e1, e2, e3, rdE_set _ _ _ h, List.set_set]
      have e : ∀ y : Int × Int × Int, setT (setT (setT y k (0 + 0)) (k + 1) (0 + 1)) (k + 2) (0 + 2) = (k, k + 1, k + 2) := fun y => rfl
      rw [e, markRecS_loop f (i + 1) (out.set i (k, k + 1, k + 2)) (k + 3) (by simp; omega) (by simp; omega) (by omega) (by simp; omega) (by simpa using h2), take_set1 h]
      simp only [List.length_set]
      rw [show out.length - i = (out.length - (i + 1)) + 1 by omega, recs, show k + 3 + 3 * ((out.length : Int) - ((i + 1 : Nat) : Int)) = k + 3 * ((out.length : Int) - (i : Int)) by omega]
      simp
    · have : i = out.length := by omega
      subst this
      rw [ltI_f (by omega), cond_false]
      simp [recs]

theorem markRecS_ok (l : List (Int × Int × Int)) (k : Int) (h0 : 0 ≤ k) (h : k + 3 * (l.length : Int) ≤ 4611686018427387904) : r112 (l, (k, ())) = some ((k + 3 * (l.length : Int), (recs k l.length, ())), ()) := by
  unfold r112 m112 L112_0
  have := markRecS_loop fuel 0 l k (by omega) (by have := fuel_big; omega) h0 (by omega) (by omega)
  simp only [Int.natCast_zero, Int.sub_zero, Nat.sub_zero, List.take_zero, List.nil_append] at this
  simp only [this]
  rfl

end Go.Proofs.YtfafepmjpphfeaaGreat.Plain
