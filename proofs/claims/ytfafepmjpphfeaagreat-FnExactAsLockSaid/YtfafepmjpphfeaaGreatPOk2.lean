/- Whether a picture unit, a row of records, the units that come after are right: the program and the reference ask the same. No condition beyond those that each lemma states. -/
import Derived.Test.YtfafepmjpphfeaaGreatPOk
set_option linter.unusedVariables false
set_option linter.unusedSimpArgs false
namespace Go.Proofs.YtfafepmjpphfeaaGreat.Plain
open Go Go.Tev

/-! ### a picture unit -/

def dotsN (t : Int) : Int := if 48 < Int.tmod t 64 then 0 else Int.tmod t 64
def ppuNum (p : Tup ppuL) : Bool := inR 0 20000 p.1 && (inR 0 255 p.2.1 && (inR 0 255 p.2.2.1 && (inR 0 15 p.2.2.2.1 && inR 0 63 p.2.2.2.2.1)))
def ppuRows (p : Tup ppuL) : Bool := eqI (p.2.2.2.2.2.2.1.length : Int) 16 && (allR 0 63 p.2.2.2.2.2.2.1 && (eqI (p.2.2.2.2.2.2.2.1.length : Int) (dotsN p.1) && allR 0 63 p.2.2.2.2.2.2.2.1))
def ppuOk (p : Tup ppuL) : Bool := ppuNum p && ppuRows p

theorem implPpuOk_ok (p : Tup ppuL) (h : ppuOkS p) : r104 (p, ()) = some ((ppuOk p, ()), ()) := by
  unfold r104 m104
  obtain ⟨h1, h2⟩ := h
  have hd : r116 p.2.2.2.2.2.2.2 = some ((allR 0 63 p.2.2.2.2.2.2.2.1, ()), ()) := colorsOk_ok p.2.2.2.2.2.2.2.1 (by omega)
  simp only [isTime_ok, isByte_ok, within_ok, colorsOk_ok p.2.2.2.2.2.2.1 (by omega), hd, lenI_def, Option.bind_some]
  unfold ppuOk ppuNum ppuRows dotsN
  by_cases h48 : 48 < Int.tmod p.1 64
  · rw [ltI_t h48, if_pos h48]
    simp only [cond_true, cond_and, cond_nand, Bool.and_assoc]
  · rw [ltI_f h48, if_neg h48]
    simp only [cond_false, cond_and, cond_nand, Bool.and_assoc]

theorem specTable_ok (p : Tup ppuL) (h16 : (p.2.2.2.2.2.2.1.length : Int) = 16) :
    L97_1 () (p, ()) ((0 : Int), ()) = some (if p.2.2.2.2.2.2.1.all (inR 0 63) then (Sum.inl ((16 : Int), ()), (p, ())) else (Sum.inr (false, ()), (p, ()))) := by
  have key := all_list_loop (fun k i => n97_1 r68 r67 r113 L97_0 k () (p, ()) ((i : Int), ())) p.2.2.2.2.2.2.1 (inR 0 63) (Sum.inl ((16 : Int), ()), (p, ())) (Sum.inr (false, ()), (p, ()))
    (fun k i h hq => by
      simp only [n97_1, w97_1, lenI_def]
      rw [ltI_t (show (i : Int) < 16 by omega), leI_t (by omega), ltI_t (by omega), rdE_nat .i p.2.2.2.2.2.2.1 i h, l1In_ok, wI_succ (by omega)]
      simp only [cond_true, Option.bind_some, hq, Bool.not_true, cond_false])
    (fun k i h hq => by
      simp only [n97_1, w97_1, lenI_def]
      rw [ltI_t (show (i : Int) < 16 by omega), leI_t (by omega), ltI_t (by omega), rdE_nat .i p.2.2.2.2.2.2.1 i h, l1In_ok]
      simp only [cond_true, Option.bind_some, hq, Bool.not_false])
    (fun k => by
      simp only [n97_1, w97_1, lenI_def]
      rw [ltI_f (by omega)]
      simp only [cond_false, h16]) fuel 0 (by omega) (by have := fuel_big; omega)
  exact key

theorem specDots_ok (p : Tup ppuL) (hl : p.2.2.2.2.2.2.2.1.length ≤ 4398046511104) :
    L97_0 () (p, ()) ((0 : Int), ()) = some (if p.2.2.2.2.2.2.2.1.all (inR 0 63) then (Sum.inl ((p.2.2.2.2.2.2.2.1.length : Int), ()), (p, ())) else (Sum.inr (false, ()), (p, ()))) := by
  have key := all_list_loop (fun k i => n97_0 r68 r67 r113 k () (p, ()) ((i : Int), ())) p.2.2.2.2.2.2.2.1 (inR 0 63) (Sum.inl ((p.2.2.2.2.2.2.2.1.length : Int), ()), (p, ())) (Sum.inr (false, ()), (p, ()))
    (fun k i h hq => by
      simp only [n97_0, w97_0, lenI_def]
      rw [ltI_t (show (i : Int) < _ by omega), leI_t (by omega), rdE_nat .i p.2.2.2.2.2.2.2.1 i h, l1In_ok, wI_succ (by omega)]
      simp only [cond_true, Option.bind_some, hq, Bool.not_true, cond_false])
    (fun k i h hq => by
      simp only [n97_0, w97_0, lenI_def]
      rw [ltI_t (show (i : Int) < _ by omega), leI_t (by omega), rdE_nat .i p.2.2.2.2.2.2.2.1 i h, l1In_ok]
      simp only [cond_true, Option.bind_some, hq, Bool.not_false])
    (fun k => by
      simp only [n97_0, w97_0, lenI_def]
      rw [ltI_f (by omega)]
      rfl) fuel 0 (by omega) (by have := fuel_big; omega)
  exact key

theorem specPpuOk_ok (p : Tup ppuL) (h : ppuOkS p) : r97 (p, ()) = some ((ppuOk p, ()), ()) := by
  unfold r97 m97
  obtain ⟨h1, h2⟩ := h
  have hd : r113 (p.1, ()) = some ((dotsN p.1, ()), ()) := by
    unfold r113 m113 dotsN
    by_cases h48 : 48 < Int.tmod p.1 64
    · simp only [ltI_t h48, cond_true, h48, if_true]
    · simp only [ltI_f h48, cond_false, h48, if_false]
  have hrest : (bif neI (p.2.2.2.2.2.2.1.length : Int) 16 then some ((false, ()), ()) else
      bif neI (p.2.2.2.2.2.2.2.1.length : Int) (dotsN p.1) then some ((false, ()), ())
      else (L97_1 () (p, ()) ((0 : Int), ())).bind fun r6 => sumElim r6.1 (fun r7 => (L97_0 () ((r6.2.1.1, (r6.2.1.2.1, (r6.2.1.2.2.1, (r6.2.1.2.2.2.1, (r6.2.1.2.2.2.2.1, (r6.2.1.2.2.2.2.2.1, p.2.2.2.2.2.2)))))), ()) ((0 : Int), ())).bind fun r8 =>
        sumElim r8.1 (fun r9 => some ((true, ()), ())) (fun r9 => some (r9, ()))) (fun r7 => some (r7, ()))) = some ((ppuRows p, ()), ()) := by
    unfold ppuRows
    by_cases h16 : (p.2.2.2.2.2.2.1.length : Int) = 16
    · rw [neI_f h16, eqI_t h16, cond_false]
      by_cases hdn : (p.2.2.2.2.2.2.2.1.length : Int) = dotsN p.1
      · rw [neI_f hdn, eqI_t hdn, cond_false, specTable_ok p h16]
        unfold allR
        cases p.2.2.2.2.2.2.1.all (inR 0 63) with
        | false => rfl
        | true =>
          simp only [if_true, Option.bind_some, sumElim]
          rw [show ((p.1, (p.2.1, (p.2.2.1, (p.2.2.2.1, (p.2.2.2.2.1, (p.2.2.2.2.2.1, p.2.2.2.2.2.2)))))) : Tup ppuL) = p from rfl, specDots_ok p h2]
          cases p.2.2.2.2.2.2.2.1.all (inR 0 63) <;> rfl
      · rw [neI_t hdn, eqI_f hdn, cond_true]
        simp
    · rw [neI_t h16, eqI_f h16, cond_true]
      rfl
  simp only [l1In_ok, l5Byte_ok, hd, lenI_def, Option.bind_some]
  rw [hrest]
  simp only [cond_nand]
  unfold ppuOk ppuNum
  simp only [Bool.and_assoc]

/-! ### a row of records -/

abbrev ringL : List LT := [.int .i64, .sl false .t]

/-- a record at a place is right -/
def ringAt (l : List (Int × Int × Int)) (i : Nat) : Bool := inR 0 20000 (rdE .t l (i : Int)).1 && (inR 0 7 (rdE .t l (i : Int)).2.1 && (inR 0 255 (rdE .t l (i : Int)).2.2 && (decide (i = 0) || !ltI (rdE .t l (i : Int)).1 (rdE .t l ((i - 1 : Nat) : Int)).1)))
def ringOk (r : Tup ringL) : Bool := (List.range' 0 r.2.1.length).all (ringAt r.2.1) && (inR 1 16 r.1 && leI (r.2.1.length : Int) r.1)

theorem wI_pred {i : Nat} (h : i ≠ 0) (h2 : i < 9223372036854775807) : wI ((i : Int) - 1) = ((i - 1 : Nat) : Int) := by
  rw [wI_id (by omega) (by omega)]; omega

theorem implRing_round (r : Tup ringL) (hl : r.2.1.length ≤ 4398046511104) (k i : Nat) (h : i < r.2.1.length) :
    n117_0 r80 r81 r82 (k + 1) (r.2.1, ((r.2.1.length : Int), ())) (r, ()) ((i : Int), ()) =
      bif ringAt r.2.1 i then n117_0 r80 r81 r82 k (r.2.1, ((r.2.1.length : Int), ())) (r, ()) (((i + 1 : Nat) : Int), ()) else some (Sum.inr (false, ()), (r, ())) := by
  simp only [n117_0, w117_0, lenI_def]
  rw [ltI_t (show (i : Int) < _ by omega), leI_t (show (0 : Int) ≤ (i : Int) by omega), wI_succ (by omega)]
  simp only [cond_true, isTime_ok, within_ok, isByte_ok, Option.bind_some]
  unfold ringAt
  generalize inR 0 20000 (rdE .t r.2.1 (i : Int)).1 = x1
  generalize inR 0 7 (rdE .t r.2.1 (i : Int)).2.1 = x2
  generalize inR 0 255 (rdE .t r.2.1 (i : Int)).2.2 = x3
  by_cases h0 : i = 0
  · subst h0
    rw [ltI_f (by omega)]
    cases x1 <;> cases x2 <;> cases x3 <;> rfl
  · rw [ltI_t (by omega), wI_pred h0 (by omega), leI_t (by omega), ltI_t (by omega), decide_eq_false h0]
    generalize ltI (rdE .t r.2.1 (i : Int)).1 (rdE .t r.2.1 ((i - 1 : Nat) : Int)).1 = x4
    cases x1 <;> cases x2 <;> cases x3 <;> cases x4 <;> rfl

theorem implRingOk_ok (r : Tup ringL) (hl : r.2.1.length ≤ 4398046511104) : r117 (r, ()) = some ((ringOk r, ()), ()) := by
  have key := all_idx_loop (fun k i => n117_0 r80 r81 r82 k (r.2.1, ((r.2.1.length : Int), ())) (r, ()) ((i : Int), ())) r.2.1.length (ringAt r.2.1) (Sum.inl ((r.2.1.length : Int), ()), (r, ())) (Sum.inr (false, ()), (r, ()))
    (fun k i h hq => by simp only [implRing_round r hl k i h, hq, cond_true])
    (fun k i h hq => by simp only [implRing_round r hl k i h, hq, cond_false])
    (fun k => by
      simp only [n117_0, w117_0, lenI_def]
      rw [ltI_f (by omega)]; rfl) fuel 0 (by omega) (by have := fuel_big; omega)
  unfold r117 m117 L117_0
  simp only [lenI_def]
  simp only [Int.natCast_zero, Nat.sub_zero] at key
  rw [key]
  unfold ringOk
  cases (List.range' 0 r.2.1.length).all (ringAt r.2.1) with
  | false => rfl
  | true => simp only [if_true, Option.bind_some, sumElim, within_ok, cond_and, Bool.true_and]

theorem specRing_round (r : Tup ringL) (hl : r.2.1.length ≤ 4398046511104) (k i : Nat) (h : i < r.2.1.length) :
    n98_0 r68 r67 (k + 1) () (r, ()) ((i : Int), ()) =
      bif ringAt r.2.1 i then n98_0 r68 r67 k () (r, ()) (((i + 1 : Nat) : Int), ()) else some (Sum.inr (false, ()), (r, ())) := by
  simp only [n98_0, w98_0, lenI_def]
  rw [ltI_t (show (i : Int) < _ by omega), leI_t (show (0 : Int) ≤ (i : Int) by omega), wI_succ (by omega)]
  simp only [cond_true, l1In_ok, l5Byte_ok, Option.bind_some]
  unfold ringAt
  generalize inR 0 20000 (rdE .t r.2.1 (i : Int)).1 = x1
  generalize inR 0 7 (rdE .t r.2.1 (i : Int)).2.1 = x2
  generalize inR 0 255 (rdE .t r.2.1 (i : Int)).2.2 = x3
  by_cases h0 : i = 0
  · subst h0
    rw [ltI_f (by omega)]
    cases x1 <;> cases x2 <;> cases x3 <;> rfl
  · rw [ltI_t (by omega), wI_pred h0 (by omega), leI_t (by omega), ltI_t (by omega), decide_eq_false h0]
    generalize ltI (rdE .t r.2.1 (i : Int)).1 (rdE .t r.2.1 ((i - 1 : Nat) : Int)).1 = x4
    cases x1 <;> cases x2 <;> cases x3 <;> cases x4 <;> rfl

theorem specRingOk_ok (r : Tup ringL) (hl : r.2.1.length ≤ 4398046511104) : r98 (r, ()) = some ((ringOk r, ()), ()) := by
  have key := all_idx_loop (fun k i => n98_0 r68 r67 k () (r, ()) ((i : Int), ())) r.2.1.length (ringAt r.2.1) (Sum.inl ((r.2.1.length : Int), ()), (r, ())) (Sum.inr (false, ()), (r, ()))
    (fun k i h hq => by simp only [specRing_round r hl k i h, hq, cond_true])
    (fun k i h hq => by simp only [specRing_round r hl k i h, hq, cond_false])
    (fun k => by
      simp only [n98_0, w98_0, lenI_def]
      rw [ltI_f (by omega)]; rfl) fuel 0 (by omega) (by have := fuel_big; omega)
  unfold r98 m98 L98_0
  simp only [lenI_def]
  simp only [Int.natCast_zero, Nat.sub_zero] at key
  rw [key]
  unfold ringOk
  cases (List.range' 0 r.2.1.length).all (ringAt r.2.1) with
  | false => rfl
  | true => simp only [if_true, Option.bind_some, sumElim, l1In_ok, cond_and, Bool.true_and]

/-- no record of a time ahead of one -/
def ringHead (r : Tup ringL) (t : Int) : Bool := if r.2.1.length = 0 then true else leI t (rdE .t r.2.1 (0 : Int)).1

theorem ringFrom_ok (r : Tup ringL) (t : Int) (hl : r.2.1.length ≤ 4398046511104) : r105 (r, (t, ())) = some ((ringOk r && ringHead r t, ()), ()) := by
  unfold r105 m105
  simp only [implRingOk_ok r hl, Option.bind_some, lenI_def]
  unfold ringHead
  cases ringOk r with
  | false => rfl
  | true =>
    by_cases h : r.2.1.length = 0
    · rw [eqI_t (by omega), if_pos h]; rfl
    · rw [eqI_f (by omega), if_neg h, ltI_t (by omega)]; rfl

/-! ### what is told -/

def framesOk (f : List (List Int)) (t : Int) : Bool := f.all (fun l => eqI (l.length : Int) 48) && eqI (f.length : Int) (Int.tdiv (t + 15) 64)

theorem tdiv_id {t c d : Int} (h0 : 0 ≤ t) (h1 : t ≤ 20000) (hc : 0 ≤ c) (hc2 : c ≤ 64) (hd : d = 64 ∨ d = 16) : wI (Int.tdiv (t + c) d) = Int.tdiv (t + c) d := by
  rw [Int.tdiv_eq_ediv_of_nonneg (by omega)]
  rcases hd with rfl | rfl <;> exact wI_id (by omega) (by omega)

theorem implFramesOk_ok (f : List (List Int)) (t : Int) (hf : f.length ≤ 4398046511104) (h0 : 0 ≤ t) (h1 : t ≤ 20000) : r106 (f, (t, ())) = some ((framesOk f t, ()), ()) := by
  have key := all_list_loop (fun k i => n106_0 r118 k (f, ((f.length : Int), ())) () ((i : Int), ())) f (fun l => eqI (l.length : Int) 48) (Sum.inl ((f.length : Int), ()), ()) (Sum.inr (false, ()), ())
    (fun k i h hq => by
      simp only [n106_0, w106_0, lenI_def]
      rw [ltI_t (by omega), leI_t (by omega), rdE_nat .n f i h, wI_succ (by omega)]
      have : (f[i].length : Int) = 48 := by simpa [eqI_d] using hq
      rw [neI_f this]
      simp only [cond_true, cond_false])
    (fun k i h hq => by
      simp only [n106_0, w106_0, lenI_def]
      rw [ltI_t (by omega), leI_t (by omega), rdE_nat .n f i h]
      have : ¬ (f[i].length : Int) = 48 := by simpa [eqI_d] using hq
      rw [neI_t this]
      simp only [cond_true])
    (fun k => by
      simp only [n106_0, w106_0, lenI_def]
      rw [ltI_f (by omega)]; rfl) fuel 0 (by omega) (by have := fuel_big; omega)
  unfold r106 m106 L106_0
  simp only [lenI_def]
  simp only [Int.natCast_zero, List.drop_zero] at key
  rw [key]
  unfold framesOk
  cases f.all (fun l => eqI (l.length : Int) 48) with
  | false => rfl
  | true =>
    have hc : r118 (t, ((48 : Int), ((64 : Int), ()))) = some ((Int.tdiv (t + 15) 64, ()), ()) := by
      unfold r118 m118
      simp only
      rw [neI_t (by omega), wI_id (x := t + 64) (by omega) (by omega), wI_id (x := t + 64 - 1) (by omega) (by omega), wI_id (x := t + 64 - 1 - 48) (by omega) (by omega), show t + 64 - 1 - 48 = t + 15 by omega, tdiv_id h0 h1 (by omega) (by omega) (.inl rfl)]
      rfl
    simp only [if_true, Option.bind_some, sumElim, hc, Bool.true_and]

theorem specFramesOk_ok (f : List (List Int)) (t : Int) (hf : f.length ≤ 4398046511104) (h0 : 0 ≤ t) (h1 : t ≤ 20000) : r99 (f, (t, ())) = some ((framesOk f t, ()), ()) := by
  have key := all_list_loop (fun k i => n99_0 r114 k (f, ()) () ((i : Int), ())) f (fun l => eqI (l.length : Int) 48) (Sum.inl ((f.length : Int), ()), ()) (Sum.inr (false, ()), ())
    (fun k i h hq => by
      simp only [n99_0, w99_0, lenI_def]
      rw [ltI_t (by omega), leI_t (by omega), rdE_nat .n f i h, wI_succ (by omega)]
      have : (f[i].length : Int) = 48 := by simpa [eqI_d] using hq
      rw [neI_f this]
      simp only [cond_true, cond_false])
    (fun k i h hq => by
      simp only [n99_0, w99_0, lenI_def]
      rw [ltI_t (by omega), leI_t (by omega), rdE_nat .n f i h]
      have : ¬ (f[i].length : Int) = 48 := by simpa [eqI_d] using hq
      rw [neI_t this]
      simp only [cond_true])
    (fun k => by
      simp only [n99_0, w99_0, lenI_def]
      rw [ltI_f (by omega)]; rfl) fuel 0 (by omega) (by have := fuel_big; omega)
  unfold r99 m99 L99_0
  simp only [lenI_def]
  simp only [Int.natCast_zero, List.drop_zero] at key
  rw [key]
  unfold framesOk
  cases f.all (fun l => eqI (l.length : Int) 48) with
  | false => rfl
  | true =>
    have hc : r114 (t, ()) = some ((Int.tdiv (t + 15) 64, ()), ()) := by
      unfold r114 m114
      simp only
      rw [wI_id (x := t + 64) (by omega) (by omega), wI_id (x := t + 64 - 48) (by omega) (by omega), wI_id (x := t + 64 - 48 - 1) (by omega) (by omega), show t + 64 - 48 - 1 = t + 15 by omega, tdiv_id h0 h1 (by omega) (by omega) (.inl rfl)]
    simp only [if_true, Option.bind_some, sumElim, hc, Bool.true_and]

def samplesOk (s : List Int) (t : Int) : Bool := eqI (s.length : Int) (Int.tdiv t 16)

theorem implSamplesOk_ok (s : List Int) (t : Int) (h0 : 0 ≤ t) (h1 : t ≤ 20000) : r108 (s, (t, ())) = some ((samplesOk s t, ()), ()) := by
  unfold r108 m108 r118 m118
  simp only
  rw [neI_t (by omega), wI_id (x := t + 16) (by omega) (by omega), wI_id (x := t + 16 - 1) (by omega) (by omega), wI_id (x := t + 16 - 1 - 15) (by omega) (by omega), show t + 16 - 1 - 15 = t + 0 by omega, tdiv_id h0 h1 (by omega) (by omega) (.inr rfl), Int.add_zero]
  rfl

/-! ### the units that come after -/

abbrev picL : List LT := ppuL ++ (ringL ++ [.sl false .n])
abbrev sndL : List LT := apuL ++ (ringL ++ [.sl false .i])
abbrev pcPpu (w : Tup picL) : Tup ppuL := (w.1, (w.2.1, (w.2.2.1, (w.2.2.2.1, (w.2.2.2.2.1, (w.2.2.2.2.2.1, (w.2.2.2.2.2.2.1, (w.2.2.2.2.2.2.2.1, ()))))))))
abbrev pcRing (w : Tup picL) : Tup ringL := (w.2.2.2.2.2.2.2.2.1, (w.2.2.2.2.2.2.2.2.2.1, ()))
abbrev sdApu (w : Tup sndL) : Tup apuL := (w.1, (w.2.1, (w.2.2.1, (w.2.2.2.1, (w.2.2.2.2.1, (w.2.2.2.2.2.1, (w.2.2.2.2.2.2.1, ())))))))
abbrev sdRing (w : Tup sndL) : Tup ringL := (w.2.2.2.2.2.2.2.1, (w.2.2.2.2.2.2.2.2.1, ()))
def picOkS (w : Tup picL) : Prop := ppuOkS (pcPpu w) ∧ (pcRing w).2.1.length ≤ 4398046511104 ∧ small w.2.2.2.2.2.2.2.2.2.2.1
def sndOkS (w : Tup sndL) : Prop := (sdRing w).2.1.length ≤ 4398046511104 ∧ w.2.2.2.2.2.2.2.2.2.1.length ≤ 4398046511104

def picOk (w : Tup picL) : Bool := ppuOk (pcPpu w) && (ringOk (pcRing w) && (ringHead (pcRing w) w.1 && framesOk w.2.2.2.2.2.2.2.2.2.2.1 w.1))
def sndOk (w : Tup sndL) : Bool := apuOk (sdApu w) && (ringOk (sdRing w) && (ringHead (sdRing w) w.1 && samplesOk w.2.2.2.2.2.2.2.2.2.1 w.1))

theorem ppuOk_t {p : Tup ppuL} (h : ppuOk p = true) : 0 ≤ p.1 ∧ p.1 ≤ 20000 := by
  simp only [ppuOk, ppuNum, Bool.and_eq_true] at h
  exact inR_iff.1 h.1.1
theorem apuOk_t {p : Tup apuL} (h : apuOk p = true) : 0 ≤ p.1 ∧ p.1 ≤ 20000 := by
  simp only [apuOk, Bool.and_eq_true] at h
  exact inR_iff.1 h.1

theorem implPictureOk_ok (w : Tup picL) (h : picOkS w) : r78 (w, ()) = some ((picOk w, ()), ()) := by
  unfold r78 m78 picOk
  obtain ⟨h1, h2, h3⟩ := h
  simp only [implPpuOk_ok (pcPpu w) h1, ringFrom_ok (pcRing w) w.1 h2, Option.bind_some]
  cases e : ppuOk (pcPpu w) with
  | false => rfl
  | true =>
    obtain ⟨t0, t1⟩ := ppuOk_t e
    simp only [implFramesOk_ok w.2.2.2.2.2.2.2.2.2.2.1 w.1 h3.1 t0 t1, Option.bind_some, cond_true, cond_and, Bool.and_assoc, Bool.true_and]

theorem specPictureOk_ok (w : Tup picL) (h : picOkS w) : r65 (w, ()) = some ((picOk w, ()), ()) := by
  unfold r65 m65 picOk
  obtain ⟨h1, h2, h3⟩ := h
  simp only [specPpuOk_ok (pcPpu w) h1, specRingOk_ok (pcRing w) h2, Option.bind_some, lenI_def]
  cases e : ppuOk (pcPpu w) with
  | false => rfl
  | true =>
    obtain ⟨t0, t1⟩ := ppuOk_t e
    simp only [specFramesOk_ok w.2.2.2.2.2.2.2.2.2.2.1 w.1 h3.1 t0 t1, Option.bind_some, Bool.not_true, cond_false, Bool.true_and]
    unfold ringHead
    cases ringOk (pcRing w) with
    | false => rfl
    | true =>
      by_cases hz : (pcRing w).2.1.length = 0
      · rw [eqI_t (by have : w.2.2.2.2.2.2.2.2.2.1.length = 0 := hz; omega), if_pos hz]
        simp
      · rw [eqI_f (by have : ¬ w.2.2.2.2.2.2.2.2.2.1.length = 0 := hz; omega), if_neg hz, ltI_t (by have : ¬ w.2.2.2.2.2.2.2.2.2.1.length = 0 := hz; omega)]
        simp only [cond_and, Bool.not_true, cond_false, cond_true, Bool.true_and]

theorem implSoundOk_ok (w : Tup sndL) (h : sndOkS w) : r79 (w, ()) = some ((sndOk w, ()), ()) := by
  unfold r79 m79 sndOk
  obtain ⟨h1, h2⟩ := h
  simp only [implApuOk_ok (sdApu w), ringFrom_ok (sdRing w) w.1 h1, Option.bind_some]
  cases e : apuOk (sdApu w) with
  | false => rfl
  | true =>
    obtain ⟨t0, t1⟩ := apuOk_t e
    simp only [implSamplesOk_ok w.2.2.2.2.2.2.2.2.2.1 w.1 t0 t1, Option.bind_some, cond_true, cond_and, Bool.and_assoc, Bool.true_and]

theorem specSoundOk_ok (w : Tup sndL) (h : sndOkS w) : r66 (w, ()) = some ((sndOk w, ()), ()) := by
  unfold r66 m66 sndOk
  obtain ⟨h1, h2⟩ := h
  simp only [specApuOk_ok (sdApu w), specRingOk_ok (sdRing w) h1, Option.bind_some, lenI_def]
  cases e : apuOk (sdApu w) with
  | false => rfl
  | true =>
    obtain ⟨t0, t1⟩ := apuOk_t e
    have et : wI (Int.tdiv w.1 16) = Int.tdiv w.1 16 := by
      have := tdiv_id (c := 0) t0 t1 (by omega) (by omega) (.inr rfl : (16 : Int) = 64 ∨ (16 : Int) = 16)
      simpa using this
    rw [et]
    unfold ringHead samplesOk
    cases ringOk (sdRing w) with
    | false => rfl
    | true =>
      by_cases hz : (sdRing w).2.1.length = 0
      · rw [eqI_t (show (w.2.2.2.2.2.2.2.2.1.length : Int) = 0 by have : w.2.2.2.2.2.2.2.2.1.length = 0 := hz; omega), if_pos hz]
        simp
      · rw [eqI_f (show ¬ (w.2.2.2.2.2.2.2.2.1.length : Int) = 0 by have : ¬ w.2.2.2.2.2.2.2.2.1.length = 0 := hz; omega), if_neg hz, ltI_t (by have : ¬ w.2.2.2.2.2.2.2.2.1.length = 0 := hz; omega)]
        simp only [cond_and, Bool.not_true, cond_false, cond_true, Bool.true_and]

end Go.Proofs.YtfafepmjpphfeaaGreat.Plain
