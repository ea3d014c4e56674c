/- Plain laws of the printed functions: Mark, LawFns, LawSp. No condition beyond those that each lemma states. -/
import Derived.Test.YtanoofbkhddokaaGreatPE
set_option linter.unusedVariables false
set_option linter.unusedSimpArgs false
namespace Go.Proofs.YtanoofbkhddokaaGreat.Plain
open Go Go.Tev

/-- numbers that go up -/
def nums (k : Int) : Nat → List Int | 0 => [] | n + 1 => k :: nums (k + 1) n
theorem nums_len : ∀ (n : Nat) (k : Int), (nums k n).length = n
  | 0, _ => rfl
  | n + 1, k => by simp [nums, nums_len n]

theorem take_set1 {α : Type} {out : List α} {i : Nat} (h : i < out.length) (x : α) : (out.set i x).take (i + 1) = out.take i ++ [x] := by
  apply List.ext_getElem?
  intro j
  rcases Nat.lt_trichotomy j i with hj | hj | hj
  · rw [List.getElem?_append_left (by simp; omega), List.getElem?_take_of_lt (by omega), List.getElem?_take_of_lt hj, List.getElem?_set_ne (by omega)]
  · subst hj
    rw [List.getElem?_append_right (by simp; omega), List.getElem?_take_of_lt (by omega), List.getElem?_set_self h]
    simp [Nat.min_eq_left (Nat.le_of_lt h)]
  · rw [List.getElem?_eq_none (by simp; omega), List.getElem?_eq_none (by simp; omega)]

theorem drop_set1 {α : Type} {out : List α} {i : Nat} (x : α) : (out.set i x).drop (i + 1) = out.drop (i + 1) := by
  apply List.ext_getElem?
  intro j
  rw [List.getElem?_drop, List.getElem?_drop, List.getElem?_set_ne (by omega)]

theorem wI_up {k : Int} (h0 : 0 ≤ k) (h : k < 4611686018427387904) : wI (k + 1) = k + 1 := wI_id (by omega) (by omega)

theorem markIntS_loop : ∀ (f i : Nat) (out : List Int) (k : Int), i ≤ out.length → out.length - i < f → 0 ≤ k → k + ((out.length : Int) - (i : Int)) ≤ 4611686018427387904 → (out.length : Int) ≤ 4611686018427387904 →
    n36_0 f () () (k, ((i : Int), (out, ()))) = some (Sum.inl (k + ((out.length : Int) - (i : Int)), ((out.length : Int), (out.take i ++ nums k (out.length - i), ()))), ())
  | 0, _, _, _, _, h, _, _, _ => absurd h (by omega)
  | f + 1, i, out, k, hi, hf, h0, h1, h2 => by
    unfold n36_0 w36_0
    simp only [lenI_def]
    by_cases h : i < out.length
    · rw [ltI_t (by omega), leI_t (by omega), wI_succ (by omega), wI_up h0 (by omega)]
      simp only [cond_true, Int.toNat_natCast]
      rw [markIntS_loop f (i + 1) (out.set i k) (k + 1) (by simp; omega) (by simp; omega) (by omega) (by simp; omega) (by simpa using h2), take_set1 h]
      simp only [List.length_set]
      rw [show out.length - i = (out.length - (i + 1)) + 1 by omega, nums, show k + 1 + ((out.length : Int) - ((i + 1 : Nat) : Int)) = k + ((out.length : Int) - (i : Int)) by omega]
      simp
    · have : i = out.length := by omega
      subst this
      rw [ltI_f (by omega), cond_false]
      simp [nums]

theorem markIntS_ok (l : List Int) (k : Int) (h0 : 0 ≤ k) (h : k + (l.length : Int) ≤ 4611686018427387904) : r36 (l, (k, ())) = some ((k + (l.length : Int), (nums k l.length, ())), ()) := by
  unfold r36 m36 L36_0
  have := markIntS_loop fuel 0 l k (by omega) (by have := fuel_big; omega) h0 (by omega) (by omega)
  simp only [Int.natCast_zero, Int.sub_zero, Nat.sub_zero, List.take_zero, List.nil_append] at this
  simp only [this]
  rfl

theorem heldIntS_loop (l : List Int) (hl : (l.length : Int) ≤ 4611686018427387904) : ∀ (f i : Nat) (k : Int), i ≤ l.length → l.length - i < f → 0 ≤ k → k + ((l.length : Int) - (i : Int)) ≤ 4611686018427387904 → l.drop i = nums k (l.length - i) →
    n37_0 f (l, ()) () (k, ((i : Int), ())) = some (Sum.inl (k + ((l.length : Int) - (i : Int)), ((l.length : Int), ())), ())
  | 0, _, _, _, h, _, _, _ => absurd h (by omega)
  | f + 1, i, k, hi, hf, h0, h1, hd => by
    unfold n37_0 w37_0
    simp only [lenI_def]
    by_cases h : i < l.length
    · rw [drop_cons' h, show l.length - i = (l.length - (i + 1)) + 1 by omega, nums] at hd
      simp only [List.cons.injEq] at hd
      rw [ltI_t (by omega), leI_t (by omega), rdE_nat .i l i h, neI_f hd.1, wI_succ (by omega), wI_up h0 (by omega)]
      simp only [cond_true, cond_false]
      rw [heldIntS_loop l hl f (i + 1) (k + 1) (by omega) (by omega) (by omega) (by omega) hd.2, show k + 1 + ((l.length : Int) - ((i + 1 : Nat) : Int)) = k + ((l.length : Int) - (i : Int)) by omega]
    · have : i = l.length := by omega
      subst this
      rw [ltI_f (by omega), cond_false]
      simp

theorem heldIntS_ok (n : Nat) (k : Int) (h0 : 0 ≤ k) (h : k + (n : Int) ≤ 4611686018427387904) : r37 (nums k n, (k, ())) = some ((k + (n : Int), ()), ()) := by
  unfold r37 m37 L37_0
  have := heldIntS_loop (nums k n) (by rw [nums_len]; omega) fuel 0 k (by omega) (by have := fuel_big; rw [nums_len]; omega) h0 (by rw [nums_len]; omega) (by simp [nums_len])
  simp only [Int.natCast_zero, Int.sub_zero, nums_len] at this
  simp only [this]
  rfl

/-- rows of rows, written over -/
def numss (k : Int) : List (List Int) → List (List Int) | [] => [] | l :: f => nums k l.length :: numss (k + (l.length : Int)) f
theorem numss_len : ∀ (f : List (List Int)) (k : Int), (numss k f).length = f.length
  | [], _ => rfl
  | l :: f, k => by simp [numss, numss_len f]

theorem markIntSS_loop : ∀ (f i : Nat) (out : List (List Int)) (k : Int), i ≤ out.length → out.length - i < f → 0 ≤ k → k + (bulk (out.drop i) : Int) ≤ 4611686018427387904 → (out.length : Int) ≤ 4611686018427387904 →
    n164_0 r36 f () () (k, ((i : Int), (out, ()))) = some (Sum.inl (k + (bulk (out.drop i) : Int), ((out.length : Int), (out.take i ++ numss k (out.drop i), ()))), ())
  | 0, _, _, _, _, h, _, _, _ => absurd h (by omega)
  | f + 1, i, out, k, hi, hf, h0, h1, h2 => by
    unfold n164_0 w164_0
    simp only [lenI_def]
    by_cases h : i < out.length
    · rw [drop_cons' h] at h1 ⊢
      simp only [bulk] at h1 ⊢
      rw [ltI_t (by omega), leI_t (by omega), rdE_nat .n out i h, wI_succ (by omega), markIntS_ok _ k h0 (by omega)]
      simp only [cond_true, Int.toNat_natCast, Option.bind_some]
      have e := drop_set1 (out := out) (i := i) (nums k out[i].length)
      rw [markIntSS_loop f (i + 1) (out.set i (nums k out[i].length)) (k + (out[i].length : Int)) (by simp; omega) (by simp; omega) (by omega) (by rw [e]; omega) (by simpa using h2), take_set1 h, e]
      simp only [List.length_set, numss]
      rw [show k + (out[i].length : Int) + (bulk (out.drop (i + 1)) : Int) = k + ((out[i].length + bulk (out.drop (i + 1)) : Nat) : Int) by omega]
      simp
    · have : i = out.length := by omega
      subst this
      rw [ltI_f (by omega), cond_false]
      simp [numss, bulk]

theorem markIntSS_ok (l : List (List Int)) (k : Int) (h0 : 0 ≤ k) (h : k + (bulk l : Int) ≤ 4611686018427387904) (hl : (l.length : Int) ≤ 4611686018427387904) : r164 (l, (k, ())) = some ((k + (bulk l : Int), (numss k l, ())), ()) := by
  unfold r164 m164 L164_0
  have := markIntSS_loop fuel 0 l k (by omega) (by have := fuel_big; omega) h0 (by simpa using h) (by omega)
  simp only [Int.natCast_zero, List.drop_zero, List.take_zero, List.nil_append] at this
  simp only [this]
  rfl

theorem heldIntSS_loop (a : List (List Int)) (ha : (a.length : Int) ≤ 4611686018427387904) : ∀ (f i : Nat) (g : List (List Int)) (k : Int), i ≤ a.length → a.length - i < f → 0 ≤ k → k + (bulk g : Int) ≤ 4611686018427387904 → a.drop i = numss k g →
    n166_0 r37 f (a, ()) () (k, ((i : Int), ())) = some (Sum.inl (k + (bulk g : Int), ((a.length : Int), ())), ())
  | 0, _, _, _, _, h, _, _, _ => absurd h (by omega)
  | f + 1, i, g, k, hi, hf, h0, h1, hd => by
    unfold n166_0 w166_0
    simp only [lenI_def]
    by_cases h : i < a.length
    · rw [drop_cons' h] at hd
      cases g with
      | nil => exact absurd hd (List.cons_ne_nil _ _)
      | cons l g =>
        simp only [numss, List.cons.injEq] at hd
        simp only [bulk] at h1 ⊢
        rw [ltI_t (by omega), leI_t (by omega), rdE_nat .n a i h, hd.1, heldIntS_ok l.length k h0 (by omega), wI_succ (by omega)]
        simp only [cond_true, Option.bind_some]
        rw [ltI_f (show ¬ k + (l.length : Int) < 0 by omega), cond_false, heldIntSS_loop a ha f (i + 1) g (k + (l.length : Int)) (by omega) (by omega) (by omega) (by omega) hd.2]
        rw [show k + (l.length : Int) + (bulk g : Int) = k + ((l.length + bulk g : Nat) : Int) by omega]
    · have : i = a.length := by omega
      subst this
      rw [List.drop_length] at hd
      cases g with
      | nil =>
        rw [ltI_f (by omega), cond_false]
        simp [bulk]
      | cons l g => simp [numss] at hd

theorem heldIntSS_ok (l : List (List Int)) (k : Int) (h0 : 0 ≤ k) (h : k + (bulk l : Int) ≤ 4611686018427387904) (hl : (l.length : Int) ≤ 4611686018427387904) : r166 (numss k l, (k, ())) = some ((k + (bulk l : Int), ()), ()) := by
  unfold r166 m166 L166_0
  have := heldIntSS_loop (numss k l) (by rw [numss_len]; omega) fuel 0 l k (by omega) (by have := fuel_big; rw [numss_len]; omega) h0 h (by simp)
  simp only [Int.natCast_zero, numss_len] at this
  simp only [this]
  rfl

/-- records, written over -/
def recs (k : Int) : Nat → List (Int × Int × Int) | 0 => [] | n + 1 => (k, k + 1, k + 2) :: recs (k + 3) n
theorem recs_len : ∀ (n : Nat) (k : Int), (recs k n).length = n
  | 0, _ => rfl
  | n + 1, k => by simp [recs, recs_len n]

theorem rdE_set (l : List (Int × Int × Int)) (i : Nat) (x : Int × Int × Int) (h : i < l.length) : rdE .t (l.set i x) (i : Int) = x := by
  rw [rdE_nat .t _ i (by simpa using h)]
  simp

theorem markRecS_loop : ∀ (f i : Nat) (out : List (Int × Int × Int)) (k : Int), i ≤ out.length → out.length - i < f → 0 ≤ k → k + 3 * ((out.length : Int) - (i : Int)) ≤ 4611686018427387904 → (out.length : Int) ≤ 4611686018427387904 →
    n239_0 f () () (k, ((i : Int), (out, ()))) = some (Sum.inl (k + 3 * ((out.length : Int) - (i : Int)), ((out.length : Int), (out.take i ++ recs k (out.length - i), ()))), ())
  | 0, _, _, _, _, h, _, _, _ => absurd h (by omega)
  | f + 1, i, out, k, hi, hf, h0, h1, h2 => by
    unfold n239_0 w239_0
    simp only [lenI_def, Int.toNat_natCast, List.length_set]
    by_cases h : i < out.length
    · have e1 : wI (k + 1) = k + 1 := wI_up h0 (by omega)
      have e2 : wI (k + 1 + 1) = k + 2 := by rw [wI_up (by omega) (by omega)]; omega
      have e3 : wI (k + 2 + 1) = k + 3 := by rw [wI_up (by omega) (by omega)]; omega
      rw [ltI_t (by omega), leI_t (by omega), wI_succ (by omega)]
      simp only [cond_true, e1, e2, e3, rdE_set _ _ _ h, List.set_set]
      have e : ∀ y : Int × Int × Int, setT (setT (setT y k (0 + 0)) (k + 1) (0 + 1)) (k + 2) (0 + 2) = (k, k + 1, k + 2) := fun y => rfl
      rw [e, markRecS_loop f (i + 1) (out.set i (k, k + 1, k + 2)) (k + 3) (by simp; omega) (by simp; omega) (by omega) (by simp; omega) (by simpa using h2), take_set1 h]
      simp only [List.length_set]
      rw [show out.length - i = (out.length - (i + 1)) + 1 by omega, recs, show k + 3 + 3 * ((out.length : Int) - ((i + 1 : Nat) : Int)) = k + 3 * ((out.length : Int) - (i : Int)) by omega]
      simp
    · have : i = out.length := by omega
      subst this
      rw [ltI_f (by omega), cond_false]
      simp [recs]

theorem markRecS_ok (l : List (Int × Int × Int)) (k : Int) (h0 : 0 ≤ k) (h : k + 3 * (l.length : Int) ≤ 4611686018427387904) : r239 (l, (k, ())) = some ((k + 3 * (l.length : Int), (recs k l.length, ())), ()) := by
  unfold r239 m239 L239_0
  have := markRecS_loop fuel 0 l k (by omega) (by have := fuel_big; omega) h0 (by omega) (by omega)
  simp only [Int.natCast_zero, Int.sub_zero, Nat.sub_zero, List.take_zero, List.nil_append] at this
  simp only [this]
  rfl


/-! ### the law's own functions -/

theorem neI_self (a : Int) : neI a a = false := neI_f rfl

theorem toImage_ok (l : List (List Int)) (h : small l) : r62 ((l, ()), ()) = some (((l, ()), ()), ()) := by
  unfold r62 m62
  simp only [toIntSS_ok l h, Option.bind_some]

theorem toMem_ok (a : Tup memL) (h : a.1.length ≤ 4398046511104) : r63 (a, ()) = some ((a, ()), ()) := by
  unfold r63 m63
  simp only [toIntS_ok a.1 h, Option.bind_some]

theorem toCpu_ok (a : Tup cpuL) : r64 (a, ()) = some ((a, ()), ()) := rfl

theorem toApu_ok (a : Tup apuL) : r92 (a, ()) = some ((a, ()), ()) := rfl

theorem toPpu_ok (a : Tup ppuL) (h : ppuOkS a) : r91 (a, ()) = some ((a, ()), ()) := by
  unfold r91 m91
  simp only [toIntS_ok _ h.1, Option.bind_some]
  rw [show r41 a.2.2.2.2.2.2.2 = some ((a.2.2.2.2.2.2.2.1, ()), ()) from toIntS_ok _ h.2]
  rfl

theorem eqImage_self (l : List (List Int)) (h : small l) : r71 ((l, ()), ((l, ()), ())) = some ((true, ()), ()) := by
  unfold r71 m71
  simp only [eqIntSS_ok l l h, Option.bind_some, decide_true, Bool.not_true, cond_false]

theorem eqMem_self (a : Tup memL) (h : a.1.length ≤ 4398046511104) : r72 (a, (a, ())) = some ((true, ()), ()) := by
  unfold r72 m72
  simp only [eqIntS_ok _ _ h, Option.bind_some, decide_true, Bool.not_true, cond_false, neI_self]

theorem eqCpu_self (a : Tup cpuL) : r73 (a, (a, ())) = some ((true, ()), ()) := by
  unfold r73 m73
  simp only [neI_self, beq_self_eq_true, Bool.not_true, cond_false]

theorem eqApu_self (a : Tup apuL) : r98 (a, (a, ())) = some ((true, ()), ()) := by
  unfold r98 m98
  simp only [neI_self, beq_self_eq_true, Bool.not_true, cond_false]

theorem eqPad_self (a : Tup padL) : r74 (a, (a, ())) = some ((true, ()), ()) := by
  unfold r74 m74
  simp only [neI_self, beq_self_eq_true, Bool.not_true, cond_false]

theorem eqPpu_self (a : Tup ppuL) (h : ppuOkS a) : r97 (a, (a, ())) = some ((true, ()), ()) := by
  unfold r97 m97
  rw [show r35 (a.2.2.2.2.2.2.2.1, a.2.2.2.2.2.2.2) = some ((true, ()), ()) from by
    have := eqIntS_ok a.2.2.2.2.2.2.2.1 a.2.2.2.2.2.2.2.1 h.2
    rw [decide_eq_true rfl] at this
    exact this]
  simp only [eqIntS_ok _ _ h.1, Option.bind_some, decide_true, Bool.not_true, cond_false, neI_self, beq_self_eq_true]

theorem eqLock_self (a : Tup lockL) (h : lockOkS a) : r26 (a, (a, ())) = some ((true, ()), ()) := by
  unfold r26 m26
  obtain ⟨h1, h2, h3, h4, h5⟩ := h
  simp only [eqImage_self _ h1, eqIntS_ok _ _ h2, eqMem_self (lkMem a) h3, eqCpu_self (lkCpu a), eqPpu_self (lkPpu a) h4, eqApu_self (lkApu a), eqPad_self (lkPad a), eqObs_ok (lkObs a) (lkObs a) h5, obsEq_self, Option.bind_some, decide_true, Bool.not_true, cond_false, neI_self, beq_self_eq_true]

/-! ### sizes -/

theorem sz1 (a : List Int) (n : Int) (h0 : 0 ≤ n) (h1 : n ≤ 1048576) (hl : a.length ≤ maxLen) : ∃ m : Int, r54 (a, (n, ())) = some ((m, ()), ()) ∧ m ≤ n ∧ (0 ≤ m → a.length ≤ 1048576) := by
  refine ⟨left n a.length, szIntS_ok a n h0 h1 hl, ?_, ?_⟩ <;> unfold left <;> split <;> omega

theorem sz2 (a : List (List Int)) (n : Int) (h0 : 0 ≤ n) (h1 : n ≤ 1048576) (hw : wfL (.sl false .n) a) : ∃ m : Int, r130 (a, (n, ())) = some ((m, ()), ()) ∧ m ≤ n ∧ (0 ≤ m → small a) := by
  refine ⟨left n (a.length + bulk a), szIntSS_ok a n h0 h1 hw.1 (fun l hl => (hw.2 l hl).1), ?_, ?_⟩
  · unfold left; split <;> omega
  · unfold left
    split
    · intro h; omega
    · intro _
      refine ⟨by omega, fun l hl => ?_, by omega⟩
      have := bulk_mem hl
      omega

theorem szImage_ok (a : List (List Int)) (n : Int) (h0 : 0 ≤ n) (h1 : n ≤ 1048576) (hw : wfL (.sl false .n) a) : ∃ m : Int, r53 ((a, ()), (n, ())) = some ((m, ()), ()) ∧ m ≤ n ∧ (0 ≤ m → small a) := by
  obtain ⟨m, e, h2, h3⟩ := sz2 a n h0 h1 hw
  unfold r53 m53
  simp only [e, Option.bind_some]
  by_cases hm : m < 0
  · exact ⟨-1, by rw [ltI_t hm]; rfl, by omega, fun h => absurd h (by decide)⟩
  · exact ⟨m, by rw [ltI_f hm]; rfl, h2, h3⟩

theorem szMem_ok (a : Tup memL) (n : Int) (h0 : 0 ≤ n) (h1 : n ≤ 1048576) (hw : wfLs memL a) : ∃ m : Int, r55 (a, (n, ())) = some ((m, ()), ()) ∧ m ≤ n ∧ (0 ≤ m → a.1.length ≤ 1048576) := by
  obtain ⟨m, e, h2, h3⟩ := sz1 a.1 n h0 h1 hw.1.1
  unfold r55 m55
  simp only [e, Option.bind_some]
  by_cases hm : m < 0
  · exact ⟨-1, by rw [ltI_t hm]; rfl, by omega, fun h => absurd h (by decide)⟩
  · exact ⟨m, by rw [ltI_f hm]; rfl, h2, h3⟩

theorem szPpu_ok (a : Tup ppuL) (n : Int) (h0 : 0 ≤ n) (h1 : n ≤ 1048576) (hw : wfLs ppuL a) : ∃ m : Int, r85 (a, (n, ())) = some ((m, ()), ()) ∧ m ≤ n ∧ (0 ≤ m → ppuOkS a) := by
  obtain ⟨_, _, _, _, _, _, w1, w2, _⟩ := hw
  obtain ⟨m, e, h2, h3⟩ := sz1 a.2.2.2.2.2.2.1 n h0 h1 w1.1
  unfold r85 m85
  simp only [e, Option.bind_some]
  by_cases hm : m < 0
  · exact ⟨-1, by rw [ltI_t hm]; rfl, by omega, fun h => absurd h (by decide)⟩
  rw [ltI_f hm, cond_false]
  obtain ⟨m2, e2, h4, h5⟩ := sz1 a.2.2.2.2.2.2.2.1 m (by omega) (by omega) w2.1
  simp only [e2, Option.bind_some]
  by_cases hm2 : m2 < 0
  · exact ⟨-1, by rw [ltI_t hm2]; rfl, by omega, fun h => absurd h (by decide)⟩
  · exact ⟨m2, by rw [ltI_f hm2]; rfl, by omega, fun h => ⟨by have := h3 (by omega); omega, by have := h5 h; omega⟩⟩

/-! ### records -/

theorem toRec_ok (y : PTup i289) : r289 y = some ((y.1, ()), ()) := rfl

theorem eqRec_self (x : Tup [.int .i64, .int .i64, .int .i64]) : r291 (x, (x, ())) = some ((true, ()), ()) := by
  unfold r291 m291
  simp only [neI_self, cond_false]

theorem toRecS_loop (l : List (Int × Int × Int)) (hl : l.length ≤ 4398046511104) : ∀ (k i : Nat) (out : List (Int × Int × Int)), i ≤ l.length → out.length = l.length → l.length - i < k →
    n233_0 r289 k (l, ()) () ((i : Int), (out, ())) = some (Sum.inl ((l.length : Int), (out.take i ++ l.drop i, ())), ())
  | 0, _, _, _, _, h => absurd h (by omega)
  | k + 1, i, out, hi, ho, hk => by
    unfold n233_0 w233_0
    simp only [lenI_def]
    by_cases h : i < l.length
    · rw [ltI_t (by omega), leI_t (by omega), ltI_t (by omega), wI_succ (by omega)]
      simp only [cond_true, Int.toNat_natCast, toRec_ok, Option.bind_some]
      rw [rdE_nat .t l i h, toRecS_loop l hl k (i + 1) _ (by omega) (by simpa using ho) (by omega), take_set h ho]
    · have : i = l.length := by omega
      subst this
      rw [ltI_f (by omega), cond_false, List.take_of_length_le (by omega), List.drop_length, List.append_nil]

theorem toRecS_ok (l : List (Int × Int × Int)) (hl : l.length ≤ 4398046511104) : r233 (l, ()) = some ((l, ()), ()) := by
  unfold r233 m233 L233_0
  simp only [lenI_def, Int.toNat_natCast]
  rw [leN_t (by simp only [E.most]; omega)]
  have := toRecS_loop l hl fuel 0 (List.replicate l.length (0, 0, 0)) (by omega) (by simp) (by have := fuel_big; omega)
  simp only [Int.natCast_zero] at this
  simp only [cond_true, this]
  simp [sumElim]

theorem eqRecS_loop (a : List (Int × Int × Int)) (h1 : a.length ≤ 4398046511104) : ∀ (k i : Nat), i ≤ a.length → a.length - i < k →
    n238_0 r291 k (a, (a, ())) () ((i : Int), ()) = some (Sum.inl ((a.length : Int), ()), ())
  | 0, _, _, h => absurd h (by omega)
  | k + 1, i, hi, hk => by
    unfold n238_0 w238_0
    simp only [lenI_def]
    by_cases h : i < a.length
    · rw [ltI_t (by omega), leI_t (by omega), wI_succ (by omega)]
      simp only [cond_true]
      exact bind_step (eqRec_self ((rdE .t a (i : Int)).1, ((rdE .t a (i : Int)).2.1, ((rdE .t a (i : Int)).2.2, ())))) (eqRecS_loop a h1 k (i + 1) (by omega) (by omega))
    · have : i = a.length := by omega
      subst this
      rw [ltI_f (by omega), cond_false]

theorem eqRecS_self (a : List (Int × Int × Int)) (h1 : a.length ≤ 4398046511104) : r238 (a, (a, ())) = some ((true, ()), ()) := by
  unfold r238 m238 L238_0
  simp only [lenI_def]
  have := eqRecS_loop a h1 fuel 0 (by omega) (by have := fuel_big; omega)
  simp only [Int.natCast_zero] at this
  rw [neI_self, cond_false, this]
  rfl

theorem szRecS_ok (a : List (Int × Int × Int)) (n : Int) (h0 : 0 ≤ n) (h1 : n ≤ 1048576) (hl : a.length ≤ maxLen) : ∃ m : Int, r229 (a, (n, ())) = some ((m, ()), ()) ∧ m ≤ n ∧ (0 ≤ m → a.length ≤ 1048576) := by
  refine ⟨left n a.length, ?_, ?_, ?_⟩
  · unfold r229 m229
    simp only [lenI_def]
    have : maxLen = 9223372036854775807 := rfl
    rw [wI_id (by omega) (by omega)]
    by_cases h : n < (a.length : Int)
    · rw [ltI_t (show n - (a.length : Int) < 0 by omega)]; simp [left, h]
    · rw [ltI_f (by omega)]; simp [left, h]
  · unfold left; split <;> omega
  · unfold left; split <;> omega

/-! ### parts of a console whose parts go apart -/

theorem toRing_ok (r : Tup ringL) (h : r.2.1.length ≤ 4398046511104) : r145 (r, ()) = some ((r, ()), ()) := by
  unfold r145 m145
  exact bind_step (toRecS_ok r.2.1 h) rfl

theorem toPicture_ok (w : Tup picL) (h : picOkS w) : r66 (w, ()) = some ((w, ()), ()) := by
  unfold r66 m66
  exact bind_step (toPpu_ok (pcPpu w) h.1) (bind_step (toRing_ok (pcRing w) h.2.1) (bind_step (toIntSS_ok w.2.2.2.2.2.2.2.2.2.2.1 h.2.2) rfl))

theorem toSound_ok (w : Tup sndL) (h : sndOkS w) : r67 (w, ()) = some ((w, ()), ()) := by
  unfold r67 m67
  exact bind_step (toApu_ok (sdApu w)) (bind_step (toRing_ok (sdRing w) h.1) (bind_step (toIntS_ok w.2.2.2.2.2.2.2.2.2.1 h.2) rfl))

theorem toSplit_ok (s : Tup splitL) (h : splitOkS s) : r17 (s, ()) = some ((s, ()), ()) := by
  unfold r17 m17
  obtain ⟨h1, h2, h3, h4, h5, h6⟩ := h
  exact bind_step (toImage_ok (spImg s) h1) (bind_step (toIntS_ok (spPads s) h2) (bind_step (toMem_ok (spMem s) h3) (bind_step (toCpu_ok (spCpu s)) (bind_step (show r65 (spPad s, ()) = some ((spPad s, ()), ()) from rfl) (bind_step (toIntS_ok (spReads s) h4) (bind_step (toPicture_ok (spPic s) h5) (bind_step (toSound_ok (spSnd s) h6) rfl)))))))

theorem eqRing_self (r : Tup ringL) (h : r.2.1.length ≤ 4398046511104) : r163 (r, (r, ())) = some ((true, ()), ()) := by
  unfold r163 m163
  simp only [neI_self, cond_false]
  exact bind_step (eqRecS_self r.2.1 h) rfl

theorem eqPicture_self (w : Tup picL) (h : picOkS w) : r75 (w, (w, ())) = some ((true, ()), ()) := by
  unfold r75 m75
  refine bind_step (eqPpu_self (pcPpu w) h.1) (bind_step (eqRing_self (pcRing w) h.2.1) ?_)
  have := eqIntSS_ok w.2.2.2.2.2.2.2.2.2.2.1 w.2.2.2.2.2.2.2.2.2.2.1 h.2.2
  rw [decide_eq_true rfl] at this
  exact bind_step this rfl

theorem eqSound_self (w : Tup sndL) (h : sndOkS w) : r76 (w, (w, ())) = some ((true, ()), ()) := by
  unfold r76 m76
  refine bind_step (eqApu_self (sdApu w)) (bind_step (eqRing_self (sdRing w) h.1) ?_)
  have := eqIntS_ok w.2.2.2.2.2.2.2.2.2.1 w.2.2.2.2.2.2.2.2.2.1 h.2
  rw [decide_eq_true rfl] at this
  exact bind_step this rfl

theorem eqI_ok1 (a : List Int) (h : a.length ≤ 4398046511104) : r35 (a, (a, ())) = some ((true, ()), ()) := by
  have := eqIntS_ok a a h
  rwa [decide_eq_true rfl] at this

theorem eqSplit_self (s : Tup splitL) (h : splitOkS s) : r19 (s, (s, ())) = some ((true, ()), ()) := by
  unfold r19 m19
  obtain ⟨h1, h2, h3, h4, h5, h6⟩ := h
  refine bind_step (eqImage_self (spImg s) h1) (bind_step (eqI_ok1 (spPads s) h2) (bind_step (eqMem_self (spMem s) h3) (bind_step (eqCpu_self (spCpu s)) (bind_step (eqPad_self (spPad s)) ?_))))
  simp only [neI_self, beq_self_eq_true, Bool.not_true, cond_false]
  exact bind_step (eqI_ok1 (spReads s) h4) (bind_step (eqPicture_self (spPic s) h5) (bind_step (eqSound_self (spSnd s) h6) rfl))

theorem szRing_ok (r : Tup ringL) (n : Int) (h0 : 0 ≤ n) (h1 : n ≤ 1048576) (hl : r.2.1.length ≤ maxLen) : ∃ m : Int, r131 (r, (n, ())) = some ((m, ()), ()) ∧ m ≤ n ∧ (0 ≤ m → r.2.1.length ≤ 1048576) := by
  obtain ⟨m, e, h2, h3⟩ := szRecS_ok r.2.1 n h0 h1 hl
  unfold r131 m131
  refine ⟨if m < 0 then -1 else m, bind_step e ?_, by split <;> omega, by split <;> (intro; omega)⟩
  by_cases hm : m < 0
  · rw [ltI_t hm, if_pos hm]; rfl
  · rw [ltI_f hm, if_neg hm]; rfl

theorem szPicture_ok (w : Tup picL) (n : Int) (h0 : 0 ≤ n) (h1 : n ≤ 1048576) (hw : wfLs picL w) : ∃ m : Int, r56 (w, (n, ())) = some ((m, ()), ()) ∧ m ≤ n ∧ (0 ≤ m → picOkS w) := by
  obtain ⟨p1, p2, p3, p4, p5, p6, p7, p8, rc, rl, fr, _⟩ := hw
  obtain ⟨m1, e1, l1, k1⟩ := szPpu_ok (pcPpu w) n h0 h1 ⟨p1, p2, p3, p4, p5, p6, p7, p8, trivial⟩
  unfold r56 m56
  by_cases hm1 : m1 < 0
  · exact ⟨-1, bind_step e1 (by rw [ltI_t hm1]; rfl), by omega, fun h => absurd h (by decide)⟩
  obtain ⟨m2, e2, l2, k2⟩ := szRing_ok (pcRing w) m1 (by omega) (by omega) rl.1
  by_cases hm2 : m2 < 0
  · exact ⟨-1, bind_step e1 (by rw [ltI_f hm1]; exact bind_step e2 (by rw [ltI_t hm2]; rfl)), by omega, fun h => absurd h (by decide)⟩
  obtain ⟨m3, e3, l3, k3⟩ := sz2 w.2.2.2.2.2.2.2.2.2.2.1 m2 (by omega) (by omega) fr
  by_cases hm3 : m3 < 0
  · exact ⟨-1, bind_step e1 (by rw [ltI_f hm1]; exact bind_step e2 (by rw [ltI_f hm2]; exact bind_step e3 (by rw [ltI_t hm3]; rfl))), by omega, fun h => absurd h (by decide)⟩
  · exact ⟨m3, bind_step e1 (by rw [ltI_f hm1]; exact bind_step e2 (by rw [ltI_f hm2]; exact bind_step e3 (by rw [ltI_f hm3]; rfl))), by omega, fun h => ⟨k1 (by omega), by have := k2 (by omega); omega, k3 h⟩⟩

theorem szSound_ok (w : Tup sndL) (n : Int) (h0 : 0 ≤ n) (h1 : n ≤ 1048576) (hw : wfLs sndL w) : ∃ m : Int, r57 (w, (n, ())) = some ((m, ()), ()) ∧ m ≤ n ∧ (0 ≤ m → sndOkS w) := by
  obtain ⟨_, _, _, _, _, _, _, rc, rl, sm, _⟩ := hw
  unfold r57 m57
  obtain ⟨m2, e2, l2, k2⟩ := szRing_ok (sdRing w) n (by omega) (by omega) rl.1
  by_cases hm2 : m2 < 0
  · exact ⟨-1, bind_step e2 (by rw [ltI_t hm2]; rfl), by omega, fun h => absurd h (by decide)⟩
  obtain ⟨m3, e3, l3, k3⟩ := sz1 w.2.2.2.2.2.2.2.2.2.1 m2 (by omega) (by omega) sm.1
  by_cases hm3 : m3 < 0
  · exact ⟨-1, bind_step e2 (by rw [ltI_f hm2]; exact bind_step e3 (by rw [ltI_t hm3]; rfl)), by omega, fun h => absurd h (by decide)⟩
  · exact ⟨m3, bind_step e2 (by rw [ltI_f hm2]; exact bind_step e3 (by rw [ltI_f hm3]; rfl)), by omega, fun h => ⟨by have := k2 (by omega); omega, by have := k3 h; omega⟩⟩

theorem szSplit_ok (s : Tup splitL) (n : Int) (h0 : 0 ≤ n) (h1 : n ≤ 1048576) (hw : wfLs splitL s) : ∃ m : Int, r15 (s, (n, ())) = some ((m, ()), ()) ∧ m ≤ n ∧ (0 ≤ m → splitOkS s ∧ (spReads s).length ≤ 1048576) := by
  obtain ⟨wi, wp, wm, wb, c1, c2, c3, c4, c5, c6, c7, c8, d1, d2, t, nm, ct, kn, ka, st, rd, q1, q2, q3, q4, q5, q6, q7, q8, qr, ql, qf, ws⟩ := hw
  obtain ⟨m1, e1, l1, k1⟩ := szImage_ok s.1 n h0 h1 wi
  unfold r15 m15
  by_cases hm1 : m1 < 0
  · exact ⟨-1, bind_step e1 (by rw [ltI_t hm1]; rfl), by omega, fun h => absurd h (by decide)⟩
  obtain ⟨m2, e2, l2, k2⟩ := sz1 s.2.1 m1 (by omega) (by omega) wp.1
  by_cases hm2 : m2 < 0
  · exact ⟨-1, bind_step e1 (by rw [ltI_f hm1]; exact bind_step e2 (by rw [ltI_t hm2]; rfl)), by omega, fun h => absurd h (by decide)⟩
  obtain ⟨m3, e3, l3, k3⟩ := szMem_ok (spMem s) m2 (by omega) (by omega) ⟨wm, wb, trivial⟩
  by_cases hm3 : m3 < 0
  · exact ⟨-1, bind_step e1 (by rw [ltI_f hm1]; exact bind_step e2 (by rw [ltI_f hm2]; exact bind_step e3 (by rw [ltI_t hm3]; rfl))), by omega, fun h => absurd h (by decide)⟩
  obtain ⟨m4, e4, l4, k4⟩ := sz1 (spReads s) m3 (by omega) (by omega) rd.1
  by_cases hm4 : m4 < 0
  · exact ⟨-1, bind_step e1 (by rw [ltI_f hm1]; exact bind_step e2 (by rw [ltI_f hm2]; exact bind_step e3 (by rw [ltI_f hm3]; exact bind_step e4 (by rw [ltI_t hm4]; rfl)))), by omega, fun h => absurd h (by decide)⟩
  obtain ⟨m5, e5, l5, k5⟩ := szPicture_ok (spPic s) m4 (by omega) (by omega) ⟨q1, q2, q3, q4, q5, q6, q7, q8, qr, ql, qf, trivial⟩
  by_cases hm5 : m5 < 0
  · exact ⟨-1, bind_step e1 (by rw [ltI_f hm1]; exact bind_step e2 (by rw [ltI_f hm2]; exact bind_step e3 (by rw [ltI_f hm3]; exact bind_step e4 (by rw [ltI_f hm4]; exact bind_step e5 (by rw [ltI_t hm5]; rfl))))), by omega, fun h => absurd h (by decide)⟩
  obtain ⟨m6, e6, l6, k6⟩ := szSound_ok (spSnd s) m5 (by omega) (by omega) ws
  by_cases hm6 : m6 < 0
  · exact ⟨-1, bind_step e1 (by rw [ltI_f hm1]; exact bind_step e2 (by rw [ltI_f hm2]; exact bind_step e3 (by rw [ltI_f hm3]; exact bind_step e4 (by rw [ltI_f hm4]; exact bind_step e5 (by rw [ltI_f hm5]; exact bind_step e6 (by rw [ltI_t hm6]; rfl)))))), by omega, fun h => absurd h (by decide)⟩
  · refine ⟨m6, bind_step e1 (by rw [ltI_f hm1]; exact bind_step e2 (by rw [ltI_f hm2]; exact bind_step e3 (by rw [ltI_f hm3]; exact bind_step e4 (by rw [ltI_f hm4]; exact bind_step e5 (by rw [ltI_f hm5]; exact bind_step e6 (by rw [ltI_f hm6]; rfl)))))), by omega, fun h => ⟨⟨k1 (by omega), ?_, ?_, ?_, k5 (by omega), k6 h⟩, k4 (by omega)⟩⟩
    · have := k2 (by omega); show s.2.1.length ≤ _; omega
    · have := k3 (by omega); show (spMem s).1.length ≤ _; omega
    · have := k4 (by omega); omega

/-! ### marks -/

def mkMem (a : Tup memL) (k : Int) : Tup memL := (nums k a.1.length, a.2)
def enMem (a : Tup memL) (k : Int) : Int := k + (a.1.length : Int)
def mkPpu (a : Tup ppuL) (k : Int) : Tup ppuL := (a.1, (a.2.1, (a.2.2.1, (a.2.2.2.1, (a.2.2.2.2.1, (a.2.2.2.2.2.1, (nums k a.2.2.2.2.2.2.1.length, (nums (k + (a.2.2.2.2.2.2.1.length : Int)) a.2.2.2.2.2.2.2.1.length, ()))))))))
def enPpu (a : Tup ppuL) (k : Int) : Int := k + (a.2.2.2.2.2.2.1.length : Int) + (a.2.2.2.2.2.2.2.1.length : Int)
def mkRing (r : Tup ringL) (k : Int) : Tup ringL := (r.1, (recs k r.2.1.length, ()))
def enRing (r : Tup ringL) (k : Int) : Int := k + 3 * (r.2.1.length : Int)
def enObs (o : Tup obsL) (k : Int) : Int := k + (bulk o.1 : Int) + (o.2.1.length : Int) + (o.2.2.1.length : Int)
def mkObs (o : Tup obsL) (k : Int) : Tup obsL := (numss k o.1, (nums (k + (bulk o.1 : Int)) o.2.1.length, (nums (k + (bulk o.1 : Int) + (o.2.1.length : Int)) o.2.2.1.length, ())))

theorem markImage_ok (f : List (List Int)) (k : Int) (h : small f) (h0 : 0 ≤ k) (h1 : k ≤ 2305843009213693952) : r77 ((f, ()), (k, ())) = some ((k + (bulk f : Int), ((numss k f, ()), ())), ()) := by
  unfold r77 m77
  obtain ⟨a, _, b⟩ := h
  exact bind_step (markIntSS_ok f k h0 (by omega) (by omega)) rfl

theorem heldImage_ok (f : List (List Int)) (k : Int) (h : small f) (h0 : 0 ≤ k) (h1 : k ≤ 2305843009213693952) : r81 ((numss k f, ()), (k, ())) = some ((k + (bulk f : Int), ()), ()) := by
  unfold r81 m81
  obtain ⟨a, _, b⟩ := h
  refine bind_step (heldIntSS_ok f k h0 (by omega) (by omega)) ?_
  rw [ltI_f (show ¬ k + (bulk f : Int) < 0 by omega)]
  rfl

theorem markMem_ok (a : Tup memL) (k : Int) (h : a.1.length ≤ 4398046511104) (h0 : 0 ≤ k) (h1 : k ≤ 2305843009213693952) : r78 (a, (k, ())) = some ((enMem a k, (mkMem a k, ())), ()) := by
  unfold r78 m78
  exact bind_step (markIntS_ok a.1 k h0 (by omega)) rfl

theorem heldMem_ok (a : Tup memL) (k : Int) (h : a.1.length ≤ 4398046511104) (h0 : 0 ≤ k) (h1 : k ≤ 2305843009213693952) : r82 (mkMem a k, (k, ())) = some ((enMem a k, ()), ()) := by
  unfold r82 m82
  refine bind_step (heldIntS_ok a.1.length k h0 (by omega)) ?_
  rw [ltI_f (show ¬ k + (a.1.length : Int) < 0 by omega)]
  rfl

theorem markPpu_ok (a : Tup ppuL) (k : Int) (h : ppuOkS a) (h0 : 0 ≤ k) (h1 : k ≤ 2305843009213693952) : r100 (a, (k, ())) = some ((enPpu a k, (mkPpu a k, ())), ()) := by
  unfold r100 m100
  obtain ⟨a1, a2⟩ := h
  exact bind_step (markIntS_ok a.2.2.2.2.2.2.1 k h0 (by omega)) (bind_step (markIntS_ok a.2.2.2.2.2.2.2.1 (k + (a.2.2.2.2.2.2.1.length : Int)) (by omega) (by omega)) rfl)

theorem heldPpu_ok (a : Tup ppuL) (k : Int) (h : ppuOkS a) (h0 : 0 ≤ k) (h1 : k ≤ 2305843009213693952) : r102 (mkPpu a k, (k, ())) = some ((enPpu a k, ()), ()) := by
  unfold r102 m102
  obtain ⟨a1, a2⟩ := h
  refine bind_step (heldIntS_ok a.2.2.2.2.2.2.1.length k h0 (by omega)) ?_
  rw [ltI_f (show ¬ k + (a.2.2.2.2.2.2.1.length : Int) < 0 by omega), cond_false]
  refine bind_step (heldIntS_ok a.2.2.2.2.2.2.2.1.length (k + (a.2.2.2.2.2.2.1.length : Int)) (by omega) (by omega)) ?_
  rw [ltI_f (show ¬ k + (a.2.2.2.2.2.2.1.length : Int) + (a.2.2.2.2.2.2.2.1.length : Int) < 0 by omega)]
  rfl

theorem markRing_ok (r : Tup ringL) (k : Int) (h : r.2.1.length ≤ 4398046511104) (h0 : 0 ≤ k) (h1 : k ≤ 2305843009213693952) : r165 (r, (k, ())) = some ((enRing r k, (mkRing r k, ())), ()) := by
  unfold r165 m165
  exact bind_step (markRecS_ok r.2.1 k h0 (by omega)) rfl

theorem markObs_ok (o : Tup obsL) (k : Int) (h : obsOk o) (h0 : 0 ≤ k) (h1 : k ≤ 2305843009213693952) : r101 (o, (k, ())) = some ((enObs o k, (mkObs o k, ())), ()) := by
  unfold r101 m101
  obtain ⟨⟨a1, _, a2⟩, a3, a4⟩ := h
  exact bind_step (markIntSS_ok o.1 k h0 (by omega) (by omega)) (bind_step (markIntS_ok o.2.1 (k + (bulk o.1 : Int)) (by omega) (by omega)) (bind_step (markIntS_ok o.2.2.1 (k + (bulk o.1 : Int) + (o.2.1.length : Int)) (by omega) (by omega)) rfl))

theorem heldObs_ok (o : Tup obsL) (k : Int) (h : obsOk o) (h0 : 0 ≤ k) (h1 : k ≤ 2305843009213693952) : r103 (mkObs o k, (k, ())) = some ((enObs o k, ()), ()) := by
  unfold r103 m103
  obtain ⟨⟨a1, _, a2⟩, a3, a4⟩ := h
  refine bind_step (heldIntSS_ok o.1 k h0 (by omega) (by omega)) ?_
  rw [ltI_f (show ¬ k + (bulk o.1 : Int) < 0 by omega), cond_false]
  refine bind_step (heldIntS_ok o.2.1.length (k + (bulk o.1 : Int)) (by omega) (by omega)) ?_
  rw [ltI_f (show ¬ k + (bulk o.1 : Int) + (o.2.1.length : Int) < 0 by omega), cond_false]
  refine bind_step (heldIntS_ok o.2.2.1.length (k + (bulk o.1 : Int) + (o.2.1.length : Int)) (by omega) (by omega)) ?_
  rw [ltI_f (show ¬ k + (bulk o.1 : Int) + (o.2.1.length : Int) + (o.2.2.1.length : Int) < 0 by omega)]
  rfl

def enPic (w : Tup picL) (k : Int) : Int := enRing (pcRing w) (enPpu (pcPpu w) k) + (bulk w.2.2.2.2.2.2.2.2.2.2.1 : Int)
def mkPic (w : Tup picL) (k : Int) : Tup picL := (w.1, (w.2.1, (w.2.2.1, (w.2.2.2.1, (w.2.2.2.2.1, (w.2.2.2.2.2.1, (nums k w.2.2.2.2.2.2.1.length, (nums (k + (w.2.2.2.2.2.2.1.length : Int)) w.2.2.2.2.2.2.2.1.length, (w.2.2.2.2.2.2.2.2.1,
  (recs (enPpu (pcPpu w) k) w.2.2.2.2.2.2.2.2.2.1.length, (numss (enRing (pcRing w) (enPpu (pcPpu w) k)) w.2.2.2.2.2.2.2.2.2.2.1, ())))))))))))
def enSnd (w : Tup sndL) (k : Int) : Int := enRing (sdRing w) k + (w.2.2.2.2.2.2.2.2.2.1.length : Int)
def mkSnd (w : Tup sndL) (k : Int) : Tup sndL := (w.1, (w.2.1, (w.2.2.1, (w.2.2.2.1, (w.2.2.2.2.1, (w.2.2.2.2.2.1, (w.2.2.2.2.2.2.1, (w.2.2.2.2.2.2.2.1, (recs k w.2.2.2.2.2.2.2.2.1.length, (nums (enRing (sdRing w) k) w.2.2.2.2.2.2.2.2.2.1.length, ()))))))))))

theorem enPpu_b {a : Tup ppuL} {k : Int} (h : ppuOkS a) : k ≤ enPpu a k ∧ enPpu a k ≤ k + 8796093022208 := by
  obtain ⟨h1, h2⟩ := h
  unfold enPpu
  omega
theorem enRing_b {r : Tup ringL} {k : Int} (h : r.2.1.length ≤ 4398046511104) : k ≤ enRing r k ∧ enRing r k ≤ k + 13194139533312 := by unfold enRing; omega

theorem enPic_b {w : Tup picL} {k : Int} (h : picOkS w) : k ≤ enPic w k ∧ enPic w k ≤ k + 26388279066624 := by
  obtain ⟨h1, h2, h3, _, h4⟩ := h
  have a := enPpu_b (k := k) h1
  have b := enRing_b (k := enPpu (pcPpu w) k) h2
  unfold enPic
  omega
theorem enSnd_b {w : Tup sndL} {k : Int} (h : sndOkS w) : k ≤ enSnd w k ∧ enSnd w k ≤ k + 17592186044416 := by
  obtain ⟨h1, h2⟩ := h
  have b := enRing_b (k := k) h1
  unfold enSnd
  omega

theorem markPicture_ok (w : Tup picL) (k : Int) (h : picOkS w) (h0 : 0 ≤ k) (h1 : k ≤ 1152921504606846976) : r79 (w, (k, ())) = some ((enPic w k, (mkPic w k, ())), ()) := by
  unfold r79 m79
  obtain ⟨a1, a2, a3, _, a4⟩ := h
  have a := enPpu_b (k := k) a1
  have b := enRing_b (k := enPpu (pcPpu w) k) a2
  exact bind_step (markPpu_ok (pcPpu w) k a1 h0 (by omega)) (bind_step (markRing_ok (pcRing w) (enPpu (pcPpu w) k) a2 (by omega) (by omega)) (bind_step (markIntSS_ok w.2.2.2.2.2.2.2.2.2.2.1 (enRing (pcRing w) (enPpu (pcPpu w) k)) (by omega) (by omega) (by omega)) rfl))

theorem markSound_ok (w : Tup sndL) (k : Int) (h : sndOkS w) (h0 : 0 ≤ k) (h1 : k ≤ 1152921504606846976) : r80 (w, (k, ())) = some ((enSnd w k, (mkSnd w k, ())), ()) := by
  unfold r80 m80
  obtain ⟨a1, a2⟩ := h
  have b := enRing_b (k := k) a1
  exact bind_step (markRing_ok (sdRing w) k a1 (by omega) (by omega)) (bind_step (markIntS_ok w.2.2.2.2.2.2.2.2.2.1 (enRing (sdRing w) k) (by omega) (by omega)) rfl)

/-- a console whose parts go apart, written over -/
def enSplit (s : Tup splitL) (k : Int) : Int := enSnd (spSnd s) (enPic (spPic s) (enMem (spMem s) (k + (bulk (spImg s) : Int) + ((spPads s).length : Int)) + ((spReads s).length : Int)))

theorem enSplit_b {s : Tup splitL} (h : splitOkS s) : 1 ≤ enSplit s 1 ∧ enSplit s 1 ≤ 2305843009213693952 := by
  obtain ⟨⟨_, _, a1⟩, a2, a3, a4, a5, a6⟩ := h
  unfold enSplit
  have e1 : enMem (spMem s) (1 + (bulk (spImg s) : Int) + ((spPads s).length : Int)) = 1 + (bulk (spImg s) : Int) + ((spPads s).length : Int) + ((spMem s).1.length : Int) := rfl
  have b := enPic_b (k := enMem (spMem s) (1 + (bulk (spImg s) : Int) + ((spPads s).length : Int)) + ((spReads s).length : Int)) a5
  have c := enSnd_b (k := enPic (spPic s) (enMem (spMem s) (1 + (bulk (spImg s) : Int) + ((spPads s).length : Int)) + ((spReads s).length : Int))) a6
  omega

/-- where each part's marks begin -/
def s1K (s : Tup splitL) : Int := 1 + (bulk (spImg s) : Int)
def s2K (s : Tup splitL) : Int := s1K s + ((spPads s).length : Int)
def s3K (s : Tup splitL) : Int := enMem (spMem s) (s2K s)
def s4K (s : Tup splitL) : Int := s3K s + ((spReads s).length : Int)
def s5K (s : Tup splitL) : Int := enPic (spPic s) (s4K s)
def mkSplit (s : Tup splitL) : Tup splitL := (numss 1 (spImg s), (nums (s1K s) (spPads s).length, (nums (s2K s) (spMem s).1.length, ((spMem s).2.1, ((spCpu s).1, ((spCpu s).2.1, ((spCpu s).2.2.1, ((spCpu s).2.2.2.1, ((spCpu s).2.2.2.2.1, ((spCpu s).2.2.2.2.2.1, ((spCpu s).2.2.2.2.2.2.1, ((spCpu s).2.2.2.2.2.2.2.1,
  ((spPad s).1, ((spPad s).2.1, (spT s, (spNmi s, (spCtrl s, (spKnown s, (spKnownAt s, (spSteps s, (nums (s3K s) (spReads s).length,
  ((spPic s).1, ((spPic s).2.1, ((spPic s).2.2.1, ((spPic s).2.2.2.1, ((spPic s).2.2.2.2.1, ((spPic s).2.2.2.2.2.1, ((mkPic (spPic s) (s4K s)).2.2.2.2.2.2.1, ((mkPic (spPic s) (s4K s)).2.2.2.2.2.2.2.1, ((spPic s).2.2.2.2.2.2.2.2.1, ((mkPic (spPic s) (s4K s)).2.2.2.2.2.2.2.2.2.1, ((mkPic (spPic s) (s4K s)).2.2.2.2.2.2.2.2.2.2.1, mkSnd (spSnd s) (s5K s)))))))))))))))))))))))))))))))))

structure SpB (s : Tup splitL) : Prop where
  b1 : 1 ≤ s1K s ∧ s1K s ≤ 4398046511105
  b2 : 1 ≤ s2K s ∧ s2K s ≤ 8796093022209
  b3 : 1 ≤ s3K s ∧ s3K s ≤ 13194139533313
  b4 : 1 ≤ s4K s ∧ s4K s ≤ 17592186044417
  b5 : 1 ≤ s5K s ∧ s5K s ≤ 43980465111041
  b6 : 1 ≤ enSplit s 1 ∧ enSplit s 1 ≤ 2305843009213693952
theorem spB {s : Tup splitL} (h : splitOkS s) : SpB s := by
  have b6 := enSplit_b h
  obtain ⟨⟨_, _, a1⟩, a2, a3, a4, a5, a6⟩ := h
  have e3 : s3K s = s2K s + ((spMem s).1.length : Int) := rfl
  have e5 := enPic_b (k := s4K s) a5
  have e6 : enPic (spPic s) (s4K s) = s5K s := rfl
  have e1 : s1K s = 1 + (bulk (spImg s) : Int) := rfl
  have e2 : s2K s = s1K s + ((spPads s).length : Int) := rfl
  have e4 : s4K s = s3K s + ((spReads s).length : Int) := rfl
  exact ⟨by omega, by omega, by omega, by omega, by omega, b6⟩

theorem markSplit_k (s : Tup splitL) (h : splitOkS s) : r20 (s, ((1 : Int), ())) = some ((enSplit s 1, (mkSplit s, ())), ()) := by
  obtain ⟨b1, b2, b3, b4, b5, b6⟩ := spB h
  unfold r20 m20
  obtain ⟨a1, a2, a3, a4, a5, a6⟩ := h
  exact bind_step (markImage_ok (spImg s) 1 a1 (by omega) (by omega)) (bind_step (markIntS_ok (spPads s) (s1K s) (by omega) (by omega)) (bind_step (markMem_ok (spMem s) (s2K s) a3 (by omega) (by omega)) (bind_step (markIntS_ok (spReads s) (s3K s) (by omega) (by omega)) (bind_step (markPicture_ok (spPic s) (s4K s) a5 (by omega) (by omega)) (bind_step (markSound_ok (spSnd s) (s5K s) a6 (by omega) (by omega)) rfl)))))

/-! ### what the functions answer has a size -/
end Go.Proofs.YtanoofbkhddokaaGreat.Plain
