/- Plain lemmas for printed functions: numbers that do not wrap, elements of lists, copying and comparing. No condition beyond those that each lemma states. -/
import Derived.Test.YtanoofbkhddokaaGreatUh
import Derived.IntWalk
set_option linter.unusedSimpArgs false
set_option linter.unusedVariables false
namespace Go.Tev

theorem wI_id {x : Int} (h1 : -9223372036854775808 ≤ x) (h2 : x ≤ 9223372036854775807) : wI x = x := by
  show IntKind.i64.wrap x = x
  rw [IntKind.wrap_i64]; omega
theorem wI_val (x : Int) : wI x = (x + 9223372036854775808) % 18446744073709551616 - 9223372036854775808 := by
  show IntKind.i64.wrap x = _
  rw [IntKind.wrap_i64]

theorem lenI_def {α : Type} (l : List α) : lenI l = (l.length : Int) := rfl
theorem rdE_nat (e : E) (l : List e.C) (i : Nat) (h : i < l.length) : rdE e l (i : Int) = l[i] := by
  simp [rdE, List.getD, h]
theorem wI_succ {i : Nat} (h : i < 9223372036854775807) : wI ((i : Int) + 1) = ((i + 1 : Nat) : Int) := by
  rw [wI_id (by omega) (by omega)]; omega

theorem ltI_t {x y : Int} (h : x < y) : ltI x y = true := decide_eq_true h
theorem ltI_f {x y : Int} (h : ¬ x < y) : ltI x y = false := decide_eq_false h
theorem leI_t {x y : Int} (h : x ≤ y) : leI x y = true := decide_eq_true h
theorem leI_f {x y : Int} (h : ¬ x ≤ y) : leI x y = false := decide_eq_false h
theorem leN_t {x y : Nat} (h : x ≤ y) : leN x y = true := decide_eq_true h
theorem leN_f {x y : Nat} (h : ¬ x ≤ y) : leN x y = false := decide_eq_false h
theorem ltN_t {x y : Nat} (h : x < y) : ltN x y = true := decide_eq_true h
theorem ltN_f {x y : Nat} (h : ¬ x < y) : ltN x y = false := decide_eq_false h
theorem eqI_d (x y : Int) : eqI x y = decide (x = y) := by unfold eqI; by_cases h : x = y <;> simp [h]
theorem neI_d (x y : Int) : neI x y = !decide (x = y) := by unfold neI; by_cases h : x = y <;> simp [h]
theorem ltI_d (x y : Int) : ltI x y = decide (x < y) := rfl
theorem leI_d (x y : Int) : leI x y = decide (x ≤ y) := rfl
theorem eqI_t {x y : Int} (h : x = y) : eqI x y = true := by simp [eqI_d, h]
theorem eqI_f {x y : Int} (h : x ≠ y) : eqI x y = false := by simp [eqI_d, h]
theorem neI_t {x y : Int} (h : x ≠ y) : neI x y = true := by simp [neI_d, h]
theorem neI_f {x y : Int} (h : x = y) : neI x y = false := by simp [neI_d, h]

theorem drop_cons' {α : Type} {l : List α} {i : Nat} (h : i < l.length) : l.drop i = l[i] :: l.drop (i + 1) := (List.drop_eq_getElem_cons h)

theorem take_set {α : Type} {l out : List α} {i : Nat} (h : i < l.length) (ho : out.length = l.length) : (out.set i l[i]).take (i + 1) ++ l.drop (i + 1) = out.take i ++ l.drop i := by
  apply List.ext_getElem?
  intro j
  rcases Nat.lt_trichotomy j i with hj | hj | hj
  · rw [List.getElem?_append_left (by simp; omega), List.getElem?_append_left (by simp; omega)]
    rw [List.getElem?_take_of_lt (by omega), List.getElem?_take_of_lt hj, List.getElem?_set_ne (by omega)]
  · subst hj
    rw [List.getElem?_append_left (by simp; omega), List.getElem?_append_right (by simp; omega), List.getElem?_take_of_lt (by omega)]
    rw [List.getElem?_set_self (by omega), List.getElem?_drop, List.length_take, show j + (j - min j out.length) = j by omega, List.getElem?_eq_getElem h]
  · rw [List.getElem?_append_right (by simp; omega), List.getElem?_append_right (by simp; omega)]
    simp only [List.length_take, List.length_set, List.getElem?_drop]
    congr 1
    omega

/-! ### bits -/

theorem ofInt_toNat (x : Int) : (BitVec.ofInt 64 x).toNat = (x % 18446744073709551616).toNat := by
  rw [BitVec.toNat_ofInt]; rfl

theorem bAnd_low (x : Int) (k : Nat) (hk : k ≤ 32) : bAnd .i64 x (2 ^ k - 1 : Nat) = x % (2 ^ k : Nat) := by
  have h2 : 2 ^ k ≤ 2 ^ 32 := Nat.pow_le_pow_right (by omega) hk
  have hpos : 0 < 2 ^ k := Nat.pow_pos (by omega)
  have e1 : (BitVec.ofInt 64 ((2 ^ k - 1 : Nat) : Int)).toNat = 2 ^ k - 1 := by
    rw [ofInt_toNat]
    have : ((2 ^ k - 1 : Nat) : Int) % 18446744073709551616 = ((2 ^ k - 1 : Nat) : Int) := Int.emod_eq_of_lt (by omega) (by omega)
    rw [this]; omega
  have e2 : (BitVec.ofInt IntKind.i64.bits x &&& BitVec.ofInt IntKind.i64.bits ((2 ^ k - 1 : Nat) : Int)).toNat = (x % (2 ^ k : Nat)).toNat := by
    show (BitVec.ofInt 64 x &&& BitVec.ofInt 64 ((2 ^ k - 1 : Nat) : Int)).toNat = _
    rw [BitVec.toNat_and, e1, Nat.and_two_pow_sub_one_eq_mod, ofInt_toNat]
    have hd : ((2 ^ k : Nat) : Int) ∣ 18446744073709551616 := by
      have : (18446744073709551616 : Int) = ((2 ^ k : Nat) : Int) * ((2 ^ (64 - k) : Nat) : Int) := by
        rw [← Int.natCast_mul, ← Nat.pow_add, show k + (64 - k) = 64 by omega]; rfl
      exact ⟨_, this⟩
    have h3 : (x % 18446744073709551616) % ((2 ^ k : Nat) : Int) = x % ((2 ^ k : Nat) : Int) := Int.emod_emod_of_dvd x hd
    have h4 : 0 ≤ x % 18446744073709551616 := Int.emod_nonneg _ (by omega)
    rw [← h3, Int.toNat_emod h4 (Int.natCast_nonneg _), Int.toNat_natCast]
  unfold bAnd
  rw [e2]
  have h5 : 0 ≤ x % ((2 ^ k : Nat) : Int) := Int.emod_nonneg _ (by omega)
  have h6 : x % ((2 ^ k : Nat) : Int) < ((2 ^ k : Nat) : Int) := Int.emod_lt_of_pos _ (by omega)
  rw [show (((x % ((2 ^ k : Nat) : Int)).toNat : Nat) : Int) = x % ((2 ^ k : Nat) : Int) by omega]
  exact wI_id (by omega) (by omega)

theorem bAnd_255 (x : Int) : bAnd .i64 x 255 = x % 256 := bAnd_low x 8 (by omega)
theorem bAnd_65535 (x : Int) : bAnd .i64 x 65535 = x % 65536 := bAnd_low x 16 (by omega)
theorem bAnd_1 (x : Int) : bAnd .i64 x 1 = x % 2 := bAnd_low x 1 (by omega)

/-- a loop that lays all elements behind one another -/
theorem app_list_loop {α T : Type} (F : Nat → Nat → List α → Option T) (l : List α) (good : List α → T) (h1 : ∀ k i out, (h : i < l.length) → out.length = i → F (k + 1) i out = F k (i + 1) (out ++ [l[i]]))
    (h2 : ∀ k out, out.length = l.length → F (k + 1) l.length out = some (good out)) : ∀ (k i : Nat) (out : List α), i ≤ l.length → out.length = i → l.length - i < k → F k i out = some (good (out ++ l.drop i))
  | 0, _, _, _, _, h => absurd h (by omega)
  | k + 1, i, out, hi, ho, hk => by
    by_cases h : i < l.length
    · rw [h1 k i out h ho, app_list_loop F l good h1 h2 k (i + 1) _ (by omega) (by simp [ho]) (by omega), drop_cons' h]
      simp
    · have : i = l.length := by omega
      subst this
      rw [h2 k out ho, List.drop_length, List.append_nil]

/-- one call after the other -/
theorem bind_step {A B : Type} {x : Option A} {y : A} {f : A → Option B} {z : Option B} (h : x = some y) (k : f y = z) : x.bind f = z := by rw [h]; exact k

/-- a loop that asks something at all places, one after the other -/
theorem all_idx_loop {T : Type} (F : Nat → Nat → Option T) (n : Nat) (p : Nat → Bool) (good bad : T) (h1 : ∀ k i, i < n → p i = true → F (k + 1) i = F k (i + 1))
    (h2 : ∀ k i, i < n → p i = false → F (k + 1) i = some bad) (h3 : ∀ k, F (k + 1) n = some good) : ∀ (k i : Nat), i ≤ n → n - i < k → F k i = some (if (List.range' i (n - i)).all p then good else bad)
  | 0, _, _, h => absurd h (by omega)
  | k + 1, i, hi, hk => by
    by_cases h : i < n
    · rw [show n - i = (n - (i + 1)) + 1 by omega, List.range'_succ, List.all_cons]
      cases hq : p i with
      | true => rw [h1 k i h hq, all_idx_loop F n p good bad h1 h2 h3 k (i + 1) (by omega) (by omega), Bool.true_and]
      | false => rw [h2 k i h hq, Bool.false_and]; rfl
    · have : i = n := by omega
      subst this
      rw [h3 k, Nat.sub_self]
      rfl

/-- a loop that asks something of all elements, one after the other -/
theorem all_list_loop {α T : Type} (F : Nat → Nat → Option T) (l : List α) (q : α → Bool) (good bad : T) (h1 : ∀ k i, (h : i < l.length) → q l[i] = true → F (k + 1) i = F k (i + 1))
    (h2 : ∀ k i, (h : i < l.length) → q l[i] = false → F (k + 1) i = some bad) (h3 : ∀ k, F (k + 1) l.length = some good) : ∀ (k i : Nat), i ≤ l.length → l.length - i < k → F k i = some (if (l.drop i).all q then good else bad)
  | 0, _, _, h => absurd h (by omega)
  | k + 1, i, hi, hk => by
    by_cases h : i < l.length
    · rw [drop_cons' h, List.all_cons]
      cases hq : q l[i] with
      | true => rw [h1 k i h hq, all_list_loop F l q good bad h1 h2 h3 k (i + 1) (by omega) (by omega), Bool.true_and]
      | false => rw [h2 k i h hq, Bool.false_and]; rfl
    · have : i = l.length := by omega
      subst this
      rw [h3 k, List.drop_length]
      rfl

theorem cond_and {U V : Type} (c x : Bool) (u : U) (v : V) : (bif c then some ((x, u), v) else some ((false, u), v)) = some ((c && x, u), v) := by cases c <;> rfl
theorem cond_nand {U V : Type} (c x : Bool) (u : U) (v : V) : (bif !c then some ((false, u), v) else some ((x, u), v)) = some ((c && x, u), v) := by cases c <;> rfl
theorem cond_true' {U V : Type} (c x : Bool) (u : U) (v : V) : (bif c then some ((true, u), v) else some ((x, u), v)) = some ((c || x, u), v) := by cases c <;> rfl
theorem cond_ne {U V : Type} (a b : Int) (x : Bool) (u : U) (v : V) : (bif neI a b then some ((false, u), v) else some ((x, u), v)) = some ((eqI a b && x, u), v) := by
  by_cases h : a = b
  · rw [neI_f h, eqI_t h]; rfl
  · rw [neI_t h, eqI_f h]; rfl
theorem eqI_self (a : Int) : eqI a a = true := eqI_t rfl

end Go.Tev
