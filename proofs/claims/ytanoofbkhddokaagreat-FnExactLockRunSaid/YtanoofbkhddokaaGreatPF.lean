/- Plain laws of the printed functions: Mark, LawFns, LawSp. No condition beyond those that each lemma states. -/
import Derived.Test.YtanoofbkhddokaaGreatPE
set_option linter.unusedVariables false
set_option linter.unusedSimpArgs false
namespace Go.Proofs.YtanoofbkhddokaaGreat.Plain
open Go Go.Tev

/-- numbers that go up -/
def nums (k : Int) : Nat → List Int | 0 => [] | n + 1 => k :: nums (k + 1) n
theorem nums_len : ∀ (n : Nat) (k : Int), (nums k n).length = n
  | 0, _ => rfl
  | n + 1, k => by simp [nums, nums_len n]

theorem take_set1 {α : Type} {out : List α} {i : Nat} (h : i < out.length) (x : α) : (out.set i x).take (i + 1) = out.take i ++ [x] := by
  apply List.ext_getElem?
  intro j
  rcases Nat.lt_trichotomy j i with hj | hj | hj
  · rw [List.getElem?_append_left (by simp; omega), List.getElem?_take_of_lt (by omega), List.getElem?_take_of_lt hj, List.getElem?_set_ne (by omega)]
  · subst hj
    rw [List.getElem?_append_right (by simp; omega), List.getElem?_take_of_lt (by omega), List.getElem?_set_self h]
    simp [Nat.min_eq_left (Nat.le_of_lt h)]
  · rw [List.getElem?_eq_none (by simp; omega), List.getElem?_eq_none (by simp; omega)]

theorem drop_set1 {α : Type} {out : List α} {i : Nat} (x : α) : (out.set i x).drop (i + 1) = out.drop (i + 1) := by
  apply List.ext_getElem?
  intro j
  rw [List.getElem?_drop, List.getElem?_drop, List.getElem?_set_ne (by omega)]

theorem wI_up {k : Int} (h0 : 0 ≤ k) (h : k < 4611686018427387904) : wI (k + 1) = k + 1 := wI_id (by omega) (by omega)

theorem markIntS_loop : ∀ (f i : Nat) (out : List Int) (k : Int), i ≤ out.length → out.length - i < f → 0 ≤ k → k + ((out.length : Int) - (i : Int)) ≤ 4611686018427387904 → (out.length : Int) ≤ 4611686018427387904 →
    n36_0 f () () (k, ((i : Int), (out, ()))) = some (Sum.inl (k + ((out.length : Int) - (i : Int)), ((out.length : Int), (out.take i ++ nums k (out.length - i), ()))), ())
  | 0, _, _, _, _, h, _, _, _ => absurd h (by omega)
  | f + 1, i, out, k, hi, hf, h0, h1, h2 => by
    unfold n36_0 w36_0
    simp only [lenI_def]
    by_cases h : i < out.length
    · rw [ltI_t (by omega), leI_t (by omega), wI_succ (by omega), wI_up h0 (by omega)]
      simp only [cond_true, Int.toNat_natCast]
      rw [markIntS_loop f (i + 1) (out.set i k) (k + 1) (by simp; omega) (by simp; omega) (by omega) (by simp; omega) (by simpa using h2), take_set1 h]
      simp only [List.length_set]
      rw [show out.length - i = (out.length - (i + 1)) + 1 by omega, nums, show k + 1 + ((out.length : Int) - ((i + 1 : Nat) : Int)) = k + ((out.length : Int) - (i : Int)) by omega]
      simp
    · have : i = out.length := by omega
      subst this
      rw [ltI_f (by omega), cond_false]
      simp [nums]

theorem markIntS_ok (l : List Int) (k : Int) (h0 : 0 ≤ k) (h : k + (l.length : Int) ≤ 4611686018427387904) : r36 (l, (k, ())) = some ((k + (l.length : Int), (nums k l.length, ())), ()) := by
  unfold r36 m36 L36_0
  have := markIntS_loop fuel 0 l k (by omega) (by have := fuel_big; omega) h0 (by omega) (by omega)
  simp only [Int.natCast_zero, Int.sub_zero, Nat.sub_zero, List.take_zero, List.nil_append] at this
  simp only [this]
  rfl

theorem heldIntS_loop (l : List Int) (hl : (l.length : Int) ≤ 4611686018427387904) : ∀ (f i : Nat) (k : Int), i ≤ l.length → l.length - i < f → 0 ≤ k → k + ((l.length : Int) - (i : Int)) ≤ 4611686018427387904 → l.drop i = nums k (l.length - i) →
    n37_0 f (l, ()) () (k, ((i : Int), ())) = some (Sum.inl (k + ((l.length : Int) - (i : Int)), ((l.length : Int), ())), ())
  | 0, _, _, _, h, _, _, _ => absurd h (by omega)
  | f + 1, i, k, hi, hf, h0, h1, hd => by
    unfold n37_0 w37_0
    simp only [lenI_def]
    by_cases h : i < l.length
    · rw [drop_cons' h, show l.length - i = (l.length - (i + 1)) + 1 by omega, nums] at hd
      simp only [List.cons.injEq] at hd
      rw [ltI_t (by omega), leI_t (by omega), rdE_nat .i l i h, neI_f hd.1, wI_succ (by omega), wI_up h0 (by omega)]
      simp only [cond_true, cond_false]
      rw [heldIntS_loop l hl f (i + 1) (k + 1) (by omega) (by omega) (by omega) (by omega) hd.2, show k + 1 + ((l.length : Int) - ((i + 1 : Nat) : Int)) = k + ((l.length : Int) - (i : Int)) by omega]
    · have : i = l.length := by omega
      subst this
      rw [ltI_f (by omega), cond_false]
      simp

theorem heldIntS_ok (n : Nat) (k : Int) (h0 : 0 ≤ k) (h : k + (n : Int) ≤ 4611686018427387904) : r37 (nums k n, (k, ())) = some ((k + (n : Int), ()), ()) := by
  unfold r37 m37 L37_0
  have := heldIntS_loop (nums k n) (by rw [nums_len]; omega) fuel 0 k (by omega) (by have := fuel_big; rw [nums_len]; omega) h0 (by rw [nums_len]; omega) (by simp [nums_len])
  simp only [Int.natCast_zero, Int.sub_zero, nums_len] at this
  simp only [this]
  rfl

/-- rows of rows, written over -/
def numss (k : Int) : List (List Int) → List (List Int) | [] => [] | l :: f => nums k l.length :: numss (k + (l.length : Int)) f
theorem numss_len : ∀ (f : List (List Int)) (k : Int), (numss k f).length = f.length
  | [], _ => rfl
  | l :: f, k => by simp [numss, numss_len f]

theorem markIntSS_loop : ∀ (f i : Nat) (out : List (List Int)) (k : Int), i ≤ out.length → out.length - i < f → 0 ≤ k → k + (bulk (out.drop i) : Int) ≤ 4611686018427387904 → (out.length : Int) ≤ 4611686018427387904 →
    n164_0 r36 f () () (k, ((i : Int), (out, ()))) = some (Sum.inl (k + (bulk (out.drop i) : Int), ((out.length : Int), (out.take i ++ numss k (out.drop i), ()))), ())
  | 0, _, _, _, _, h, _, _, _ => absurd h (by omega)
  | f + 1, i, out, k, hi, hf, h0, h1, h2 => by
    unfold n164_0 w164_0
    simp only [lenI_def]
    by_cases h : i < out.length
    · rw [drop_cons' h] at h1 ⊢
      simp only [bulk] at h1 ⊢
      rw [ltI_t (by omega), leI_t (by omega), rdE_nat .n out i h, wI_succ (by omega), markIntS_ok _ k h0 (by omega)]
      simp only [cond_true, Int.toNat_natCast, Option.bind_some]
      have e := drop_set1 (out := out) (i := i) (nums k out[i].length)
      rw [markIntSS_loop f (i + 1) (out.set i (nums k out[i].length)) (k + (out[i].length : Int)) (by simp; omega) (by simp; omega) (by omega) (by rw [e]; omega) (by simpa using h2), take_set1 h, e]
      simp only [List.length_set, numss]
      rw [show k + (out[i].length : Int) + (bulk (out.drop (i + 1)) : Int) = k + ((out[i].length + bulk (out.drop (i + 1)) : Nat) : Int) by omega]
      simp
    · have : i = out.length := by omega
      subst this
      rw [ltI_f (by omega), cond_false]
      simp [numss, bulk]

theorem markIntSS_ok (l : List (List Int)) (k : Int) (h0 : 0 ≤ k) (h : k + (bulk l : Int) ≤ 4611686018427387904) (hl : (l.length : Int) ≤ 4611686018427387904) : r164 (l, (k, ())) = some ((k + (bulk l : Int), (numss k l, ())), ()) := by
  unfold r164 m164 L164_0
  have := markIntSS_loop fuel 0 l k (by omega) (by have := fuel_big; omega) h0 (by simpa using h) (by omega)
  simp only [Int.natCast_zero, List.drop_zero, List.take_zero, List.nil_append] at this
  simp only [this]
  rfl

theorem heldIntSS_loop (a : List (List Int)) (ha : (a.length : Int) ≤ 4611686018427387904) : ∀ (f i : Nat) (g : List (List Int)) (k : Int), i ≤ a.length → a.length - i < f → 0 ≤ k → k + (bulk g : Int) ≤ 4611686018427387904 → a.drop i = numss k g →
    n166_0 r37 f (a, ()) () (k, ((i : Int), ())) = some (Sum.inl (k + (bulk g : Int), ((a.length : Int), ())), ())
  | 0, _, _, _, _, h, _, _, _ => absurd h (by omega)
  | f + 1, i, g, k, hi, hf, h0, h1, hd => by
    unfold n166_0 w166_0
    simp only [lenI_def]
    by_cases h : i < a.length
    · rw [drop_cons' h] at hd
      cases g with
      | nil => exact absurd hd (List.cons_ne_nil _ _)
      | cons l g =>
        simp only [numss, List.cons.injEq] at hd
        simp only [bulk] at h1 ⊢
        rw [ltI_t (by omega), leI_t (by omega), rdE_nat .n a i h, hd.1, heldIntS_ok l.length k h0 (by omega), wI_succ (by omega)]
        simp only [cond_true, Option.bind_some]
        rw [ltI_f (show ¬ k + (l.length : Int) < 0 by omega), cond_false, heldIntSS_loop a ha f (i + 1) g (k + (l.length : Int)) (by omega) (by omega) (by omega) (by omega) hd.2]
        rw [show k + (l.length : Int) + (bulk g : Int) = k + ((l.length + bulk g : Nat) : Int) by omega]
    · have : i = a.length := by omega
      subst this
      rw [List.drop_length] at hd
      cases g with
      | nil =>
        rw [ltI_f (by omega), cond_false]
        simp [bulk]
      | cons l g => simp [numss] at hd

theorem heldIntSS_ok (l : List (List Int)) (k : Int) (h0 : 0 ≤ k) (h : k + (bulk l : Int) ≤ 4611686018427387904) (hl : (l.length : Int) ≤ 4611686018427387904) : r166 (numss k l, (k, ())) = some ((k + (bulk l : Int), ()), ()) := by
  unfold r166 m166 L166_0
  have := heldIntSS_loop (numss k l) (by rw [numss_len]; omega) fuel 0 l k (by omega) (by have := fuel_big; rw [numss_len]; omega) h0 h (by simp)
  simp only [Int.natCast_zero, numss_len] at this
  simp only [this]
  rfl

/-- records, written over -/
def recs (k : Int) : Nat → List (Int × Int × Int) | 0 => [] | n + 1 => (k, k + 1, k + 2) :: recs (k + 3) n
theorem recs_len : ∀ (n : Nat) (k : Int), (recs k n).length = n
  | 0, _ => rfl
  | n + 1, k => by simp [recs, recs_len n]


/-! ### the law's own functions -/

theorem neI_self (a : Int) : neI a a = false := neI_f rfl

theorem toImage_ok (l : List (List Int)) (h : small l) : r62 ((l, ()), ()) = some (((l, ()), ()), ()) := by
  unfold r62 m62
  simp only [toIntSS_ok l h, Option.bind_some]

theorem toMem_ok (a : Tup memL) (h : a.1.length ≤ 4398046511104) : r63 (a, ()) = some ((a, ()), ()) := by
  unfold r63 m63
  simp only [toIntS_ok a.1 h, Option.bind_some]

theorem toCpu_ok (a : Tup cpuL) : r64 (a, ()) = some ((a, ()), ()) := rfl

theorem toApu_ok (a : Tup apuL) : r92 (a, ()) = some ((a, ()), ()) := rfl

theorem toPad_ok (a : Tup padL) : r65 (a, ()) = some ((a, ()), ()) := rfl

theorem toPpu_ok (a : Tup ppuL) (h : ppuOkS a) : r91 (a, ()) = some ((a, ()), ()) := by
  unfold r91 m91
  simp only [toIntS_ok _ h.1, Option.bind_some]
  rw [show r41 a.2.2.2.2.2.2.2 = some ((a.2.2.2.2.2.2.2.1, ()), ()) from toIntS_ok _ h.2]
  rfl

theorem toLock_ok (a : Tup lockL) (h : lockOkS a) : r24 (a, ()) = some ((a, ()), ()) := by
  unfold r24 m24
  obtain ⟨h1, h2, h3, h4, h5⟩ := h
  simp only [toImage_ok _ h1, toIntS_ok _ h2, toMem_ok (lkMem a) h3, toCpu_ok (lkCpu a), toPpu_ok (lkPpu a) h4, toApu_ok (lkApu a), toPad_ok (lkPad a), toObs_ok (lkObs a) h5, Option.bind_some]
  rfl

theorem eqImage_self (l : List (List Int)) (h : small l) : r71 ((l, ()), ((l, ()), ())) = some ((true, ()), ()) := by
  unfold r71 m71
  simp only [eqIntSS_ok l l h, Option.bind_some, decide_true, Bool.not_true, cond_false]

theorem eqMem_self (a : Tup memL) (h : a.1.length ≤ 4398046511104) : r72 (a, (a, ())) = some ((true, ()), ()) := by
  unfold r72 m72
  simp only [eqIntS_ok _ _ h, Option.bind_some, decide_true, Bool.not_true, cond_false, neI_self]

theorem eqCpu_self (a : Tup cpuL) : r73 (a, (a, ())) = some ((true, ()), ()) := by
  unfold r73 m73
  simp only [neI_self, beq_self_eq_true, Bool.not_true, cond_false]

theorem eqApu_self (a : Tup apuL) : r98 (a, (a, ())) = some ((true, ()), ()) := by
  unfold r98 m98
  simp only [neI_self, beq_self_eq_true, Bool.not_true, cond_false]

theorem eqPad_self (a : Tup padL) : r74 (a, (a, ())) = some ((true, ()), ()) := by
  unfold r74 m74
  simp only [neI_self, beq_self_eq_true, Bool.not_true, cond_false]

theorem eqPpu_self (a : Tup ppuL) (h : ppuOkS a) : r97 (a, (a, ())) = some ((true, ()), ()) := by
  unfold r97 m97
  rw [show r35 (a.2.2.2.2.2.2.2.1, a.2.2.2.2.2.2.2) = some ((true, ()), ()) from by
    have := eqIntS_ok a.2.2.2.2.2.2.2.1 a.2.2.2.2.2.2.2.1 h.2
    rw [decide_eq_true rfl] at this
    exact this]
  simp only [eqIntS_ok _ _ h.1, Option.bind_some, decide_true, Bool.not_true, cond_false, neI_self, beq_self_eq_true]

theorem eqLock_self (a : Tup lockL) (h : lockOkS a) : r26 (a, (a, ())) = some ((true, ()), ()) := by
  unfold r26 m26
  obtain ⟨h1, h2, h3, h4, h5⟩ := h
  simp only [eqImage_self _ h1, eqIntS_ok _ _ h2, eqMem_self (lkMem a) h3, eqCpu_self (lkCpu a), eqPpu_self (lkPpu a) h4, eqApu_self (lkApu a), eqPad_self (lkPad a), eqObs_ok (lkObs a) (lkObs a) h5, obsEq_self, Option.bind_some, decide_true, Bool.not_true, cond_false, neI_self, beq_self_eq_true]

/-! ### sizes -/

theorem sz1 (a : List Int) (n : Int) (h0 : 0 ≤ n) (h1 : n ≤ 1048576) (hl : a.length ≤ maxLen) : ∃ m : Int, r54 (a, (n, ())) = some ((m, ()), ()) ∧ m ≤ n ∧ (0 ≤ m → a.length ≤ 1048576) := by
  refine ⟨left n a.length, szIntS_ok a n h0 h1 hl, ?_, ?_⟩ <;> unfold left <;> split <;> omega

theorem sz2 (a : List (List Int)) (n : Int) (h0 : 0 ≤ n) (h1 : n ≤ 1048576) (hw : wfL (.sl false .n) a) : ∃ m : Int, r130 (a, (n, ())) = some ((m, ()), ()) ∧ m ≤ n ∧ (0 ≤ m → small a) := by
  refine ⟨left n (a.length + bulk a), szIntSS_ok a n h0 h1 hw.1 (fun l hl => (hw.2 l hl).1), ?_, ?_⟩
  · unfold left; split <;> omega
  · unfold left
    split
    · intro h; omega
    · intro _
      refine ⟨by omega, fun l hl => ?_, by omega⟩
      have := bulk_mem hl
      omega

theorem szImage_ok (a : List (List Int)) (n : Int) (h0 : 0 ≤ n) (h1 : n ≤ 1048576) (hw : wfL (.sl false .n) a) : ∃ m : Int, r53 ((a, ()), (n, ())) = some ((m, ()), ()) ∧ m ≤ n ∧ (0 ≤ m → small a) := by
  obtain ⟨m, e, h2, h3⟩ := sz2 a n h0 h1 hw
  unfold r53 m53
  simp only [e, Option.bind_some]
  by_cases hm : m < 0
  · exact ⟨-1, by rw [ltI_t hm]; rfl, by omega, fun h => absurd h (by decide)⟩
  · exact ⟨m, by rw [ltI_f hm]; rfl, h2, h3⟩

theorem szMem_ok (a : Tup memL) (n : Int) (h0 : 0 ≤ n) (h1 : n ≤ 1048576) (hw : wfLs memL a) : ∃ m : Int, r55 (a, (n, ())) = some ((m, ()), ()) ∧ m ≤ n ∧ (0 ≤ m → a.1.length ≤ 1048576) := by
  obtain ⟨m, e, h2, h3⟩ := sz1 a.1 n h0 h1 hw.1.1
  unfold r55 m55
  simp only [e, Option.bind_some]
  by_cases hm : m < 0
  · exact ⟨-1, by rw [ltI_t hm]; rfl, by omega, fun h => absurd h (by decide)⟩
  · exact ⟨m, by rw [ltI_f hm]; rfl, h2, h3⟩

theorem szPpu_ok (a : Tup ppuL) (n : Int) (h0 : 0 ≤ n) (h1 : n ≤ 1048576) (hw : wfLs ppuL a) : ∃ m : Int, r85 (a, (n, ())) = some ((m, ()), ()) ∧ m ≤ n ∧ (0 ≤ m → ppuOkS a) := by
  obtain ⟨_, _, _, _, _, _, w1, w2, _⟩ := hw
  obtain ⟨m, e, h2, h3⟩ := sz1 a.2.2.2.2.2.2.1 n h0 h1 w1.1
  unfold r85 m85
  simp only [e, Option.bind_some]
  by_cases hm : m < 0
  · exact ⟨-1, by rw [ltI_t hm]; rfl, by omega, fun h => absurd h (by decide)⟩
  rw [ltI_f hm, cond_false]
  obtain ⟨m2, e2, h4, h5⟩ := sz1 a.2.2.2.2.2.2.2.1 m (by omega) (by omega) w2.1
  simp only [e2, Option.bind_some]
  by_cases hm2 : m2 < 0
  · exact ⟨-1, by rw [ltI_t hm2]; rfl, by omega, fun h => absurd h (by decide)⟩
  · exact ⟨m2, by rw [ltI_f hm2]; rfl, by omega, fun h => ⟨by have := h3 (by omega); omega, by have := h5 h; omega⟩⟩

/-! ### records -/

/-! ### parts of a console whose parts go apart -/

/-! ### marks -/

def mkMem (a : Tup memL) (k : Int) : Tup memL := (nums k a.1.length, a.2)
def enMem (a : Tup memL) (k : Int) : Int := k + (a.1.length : Int)
def mkPpu (a : Tup ppuL) (k : Int) : Tup ppuL := (a.1, (a.2.1, (a.2.2.1, (a.2.2.2.1, (a.2.2.2.2.1, (a.2.2.2.2.2.1, (nums k a.2.2.2.2.2.2.1.length, (nums (k + (a.2.2.2.2.2.2.1.length : Int)) a.2.2.2.2.2.2.2.1.length, ()))))))))
def enPpu (a : Tup ppuL) (k : Int) : Int := k + (a.2.2.2.2.2.2.1.length : Int) + (a.2.2.2.2.2.2.2.1.length : Int)
def mkRing (r : Tup ringL) (k : Int) : Tup ringL := (r.1, (recs k r.2.1.length, ()))
def enRing (r : Tup ringL) (k : Int) : Int := k + 3 * (r.2.1.length : Int)
def enObs (o : Tup obsL) (k : Int) : Int := k + (bulk o.1 : Int) + (o.2.1.length : Int) + (o.2.2.1.length : Int)
def mkObs (o : Tup obsL) (k : Int) : Tup obsL := (numss k o.1, (nums (k + (bulk o.1 : Int)) o.2.1.length, (nums (k + (bulk o.1 : Int) + (o.2.1.length : Int)) o.2.2.1.length, ())))

theorem markImage_ok (f : List (List Int)) (k : Int) (h : small f) (h0 : 0 ≤ k) (h1 : k ≤ 2305843009213693952) : r77 ((f, ()), (k, ())) = some ((k + (bulk f : Int), ((numss k f, ()), ())), ()) := by
  unfold r77 m77
  obtain ⟨a, _, b⟩ := h
  exact bind_step (markIntSS_ok f k h0 (by omega) (by omega)) rfl

theorem heldImage_ok (f : List (List Int)) (k : Int) (h : small f) (h0 : 0 ≤ k) (h1 : k ≤ 2305843009213693952) : r81 ((numss k f, ()), (k, ())) = some ((k + (bulk f : Int), ()), ()) := by
  unfold r81 m81
  obtain ⟨a, _, b⟩ := h
  refine bind_step (heldIntSS_ok f k h0 (by omega) (by omega)) ?_
  rw [ltI_f (show ¬ k + (bulk f : Int) < 0 by omega)]
  rfl

theorem markMem_ok (a : Tup memL) (k : Int) (h : a.1.length ≤ 4398046511104) (h0 : 0 ≤ k) (h1 : k ≤ 2305843009213693952) : r78 (a, (k, ())) = some ((enMem a k, (mkMem a k, ())), ()) := by
  unfold r78 m78
  exact bind_step (markIntS_ok a.1 k h0 (by omega)) rfl

theorem heldMem_ok (a : Tup memL) (k : Int) (h : a.1.length ≤ 4398046511104) (h0 : 0 ≤ k) (h1 : k ≤ 2305843009213693952) : r82 (mkMem a k, (k, ())) = some ((enMem a k, ()), ()) := by
  unfold r82 m82
  refine bind_step (heldIntS_ok a.1.length k h0 (by omega)) ?_
  rw [ltI_f (show ¬ k + (a.1.length : Int) < 0 by omega)]
  rfl

theorem markPpu_ok (a : Tup ppuL) (k : Int) (h : ppuOkS a) (h0 : 0 ≤ k) (h1 : k ≤ 2305843009213693952) : r100 (a, (k, ())) = some ((enPpu a k, (mkPpu a k, ())), ()) := by
  unfold r100 m100
  obtain ⟨a1, a2⟩ := h
  exact bind_step (markIntS_ok a.2.2.2.2.2.2.1 k h0 (by omega)) (bind_step (markIntS_ok a.2.2.2.2.2.2.2.1 (k + (a.2.2.2.2.2.2.1.length : Int)) (by omega) (by omega)) rfl)

theorem heldPpu_ok (a : Tup ppuL) (k : Int) (h : ppuOkS a) (h0 : 0 ≤ k) (h1 : k ≤ 2305843009213693952) : r102 (mkPpu a k, (k, ())) = some ((enPpu a k, ()), ()) := by
  unfold r102 m102
  obtain ⟨a1, a2⟩ := h
  refine bind_step (heldIntS_ok a.2.2.2.2.2.2.1.length k h0 (by omega)) ?_
  rw [ltI_f (show ¬ k + (a.2.2.2.2.2.2.1.length : Int) < 0 by omega), cond_false]
  refine bind_step (heldIntS_ok a.2.2.2.2.2.2.2.1.length (k + (a.2.2.2.2.2.2.1.length : Int)) (by omega) (by omega)) ?_
  rw [ltI_f (show ¬ k + (a.2.2.2.2.2.2.1.length : Int) + (a.2.2.2.2.2.2.2.1.length : Int) < 0 by omega)]
  rfl

theorem markObs_ok (o : Tup obsL) (k : Int) (h : obsOk o) (h0 : 0 ≤ k) (h1 : k ≤ 2305843009213693952) : r101 (o, (k, ())) = some ((enObs o k, (mkObs o k, ())), ()) := by
  unfold r101 m101
  obtain ⟨⟨a1, _, a2⟩, a3, a4⟩ := h
  exact bind_step (markIntSS_ok o.1 k h0 (by omega) (by omega)) (bind_step (markIntS_ok o.2.1 (k + (bulk o.1 : Int)) (by omega) (by omega)) (bind_step (markIntS_ok o.2.2.1 (k + (bulk o.1 : Int) + (o.2.1.length : Int)) (by omega) (by omega)) rfl))

theorem heldObs_ok (o : Tup obsL) (k : Int) (h : obsOk o) (h0 : 0 ≤ k) (h1 : k ≤ 2305843009213693952) : r103 (mkObs o k, (k, ())) = some ((enObs o k, ()), ()) := by
  unfold r103 m103
  obtain ⟨⟨a1, _, a2⟩, a3, a4⟩ := h
  refine bind_step (heldIntSS_ok o.1 k h0 (by omega) (by omega)) ?_
  rw [ltI_f (show ¬ k + (bulk o.1 : Int) < 0 by omega), cond_false]
  refine bind_step (heldIntS_ok o.2.1.length (k + (bulk o.1 : Int)) (by omega) (by omega)) ?_
  rw [ltI_f (show ¬ k + (bulk o.1 : Int) + (o.2.1.length : Int) < 0 by omega), cond_false]
  refine bind_step (heldIntS_ok o.2.2.1.length (k + (bulk o.1 : Int) + (o.2.1.length : Int)) (by omega) (by omega)) ?_
  rw [ltI_f (show ¬ k + (bulk o.1 : Int) + (o.2.1.length : Int) + (o.2.2.1.length : Int) < 0 by omega)]
  rfl

theorem enPpu_b {a : Tup ppuL} {k : Int} (h : ppuOkS a) : k ≤ enPpu a k ∧ enPpu a k ≤ k + 8796093022208 := by
  obtain ⟨h1, h2⟩ := h
  unfold enPpu
  omega
theorem enRing_b {r : Tup ringL} {k : Int} (h : r.2.1.length ≤ 4398046511104) : k ≤ enRing r k ∧ enRing r k ≤ k + 13194139533312 := by unfold enRing; omega

/-! ### what the functions answer has a size -/
end Go.Proofs.YtanoofbkhddokaaGreat.Plain
