/- Plain lemmas for printed functions: numbers that do not wrap, elements of lists, copying and comparing. No condition beyond those that each lemma states. -/
import Derived.Test.YtfafepmjpphfeaaUh
import Derived.IntWalk
set_option linter.unusedSimpArgs false
set_option linter.unusedVariables false
namespace Go.Tev

theorem wI_id {x : Int} (h1 : -9223372036854775808 ≤ x) (h2 : x ≤ 9223372036854775807) : wI x = x := by
  show IntKind.i64.wrap x = x
  rw [IntKind.wrap_i64]; omega
theorem wI_val (x : Int) : wI x = (x + 9223372036854775808) % 18446744073709551616 - 9223372036854775808 := by
  show IntKind.i64.wrap x = _
  rw [IntKind.wrap_i64]

theorem lenI_def {α : Type} (l : List α) : lenI l = (l.length : Int) := rfl
theorem rdE_nat (e : E) (l : List e.C) (i : Nat) (h : i < l.length) : rdE e l (i : Int) = l[i] := by
  simp [rdE, List.getD, h]
theorem wI_succ {i : Nat} (h : i < 9223372036854775807) : wI ((i : Int) + 1) = ((i + 1 : Nat) : Int) := by
  rw [wI_id (by omega) (by omega)]; omega

theorem ltI_t {x y : Int} (h : x < y) : ltI x y = true := decide_eq_true h
theorem ltI_f {x y : Int} (h : ¬ x < y) : ltI x y = false := decide_eq_false h
theorem leI_t {x y : Int} (h : x ≤ y) : leI x y = true := decide_eq_true h
theorem leI_f {x y : Int} (h : ¬ x ≤ y) : leI x y = false := decide_eq_false h
theorem leN_t {x y : Nat} (h : x ≤ y) : leN x y = true := decide_eq_true h
theorem leN_f {x y : Nat} (h : ¬ x ≤ y) : leN x y = false := decide_eq_false h
theorem ltN_t {x y : Nat} (h : x < y) : ltN x y = true := decide_eq_true h
theorem ltN_f {x y : Nat} (h : ¬ x < y) : ltN x y = false := decide_eq_false h
theorem eqI_d (x y : Int) : eqI x y = decide (x = y) := by unfold eqI; by_cases h : x = y <;> simp [h]
theorem neI_d (x y : Int) : neI x y = !decide (x = y) := by unfold neI; by_cases h : x = y <;> simp [h]
theorem ltI_d (x y : Int) : ltI x y = decide (x < y) := rfl
theorem leI_d (x y : Int) : leI x y = decide (x ≤ y) := rfl
theorem eqI_t {x y : Int} (h : x = y) : eqI x y = true := by simp [eqI_d, h]
theorem eqI_f {x y : Int} (h : x ≠ y) : eqI x y = false := by simp [eqI_d, h]
theorem neI_t {x y : Int} (h : x ≠ y) : neI x y = true := by simp [neI_d, h]
theorem neI_f {x y : Int} (h : x = y) : neI x y = false := by simp [neI_d, h]

theorem drop_cons' {α : Type} {l : List α} {i : Nat} (h : i < l.length) : l.drop i = l[i] :: l.drop (i + 1) := (List.drop_eq_getElem_cons h)

theorem take_set {α : Type} {l out : List α} {i : Nat} (h : i < l.length) (ho : out.length = l.length) : (out.set i l[i]).take (i + 1) ++ l.drop (i + 1) = out.take i ++ l.drop i := by
  apply List.ext_getElem?
  intro j
  rcases Nat.lt_trichotomy j i with hj | hj | hj
  · rw [List.getElem?_append_left (by simp; omega), List.getElem?_append_left (by simp; omega)]
    rw [List.getElem?_take_of_lt (by omega), List.getElem?_take_of_lt hj, List.getElem?_set_ne (by omega)]
  · subst hj
    rw [List.getElem?_append_left (by simp; omega), List.getElem?_append_right (by simp; omega), List.getElem?_take_of_lt (by omega)]
    rw [List.getElem?_set_self (by omega), List.getElem?_drop, List.length_take, show j + (j - min j out.length) = j by omega, List.getElem?_eq_getElem h]
  · rw [List.getElem?_append_right (by simp; omega), List.getElem?_append_right (by simp; omega)]
    simp only [List.length_take, List.length_set, List.getElem?_drop]
    congr 1
    omega

theorem cond_and {U V : Type} (c x : Bool) (u : U) (v : V) : (bif c then some ((x, u), v) else some ((false, u), v)) = some ((c && x, u), v) := by cases c <;> rfl
theorem cond_nand {U V : Type} (c x : Bool) (u : U) (v : V) : (bif !c then some ((false, u), v) else some ((x, u), v)) = some ((c && x, u), v) := by cases c <;> rfl
theorem cond_true' {U V : Type} (c x : Bool) (u : U) (v : V) : (bif c then some ((true, u), v) else some ((x, u), v)) = some ((c || x, u), v) := by cases c <;> rfl
theorem cond_ne {U V : Type} (a b : Int) (x : Bool) (u : U) (v : V) : (bif neI a b then some ((false, u), v) else some ((x, u), v)) = some ((eqI a b && x, u), v) := by
  by_cases h : a = b
  · rw [neI_f h, eqI_t h]; rfl
  · rw [neI_t h, eqI_f h]; rfl
theorem eqI_self (a : Int) : eqI a a = true := eqI_t rfl

end Go.Tev
