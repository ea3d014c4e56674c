/- Whether bytes, images, memory, pads and a processor are right: the program and the reference ask the same. No condition beyond those that each lemma states. -/
import Derived.Test.YtfafepmjpphfeaaGreatPLock
set_option linter.unusedVariables false
set_option linter.unusedSimpArgs false
namespace Go.Proofs.YtfafepmjpphfeaaGreat.Plain
open Go Go.Tev

/-! ### ranges -/

def inR (lo hi n : Int) : Bool := leI lo n && leI n hi
def allR (lo hi : Int) (l : List Int) : Bool := l.all (inR lo hi)
theorem inR_iff {lo hi n : Int} : inR lo hi n = true ↔ lo ≤ n ∧ n ≤ hi := by simp [inR, leI]

theorem within_ok (y : PTup i82) : r82 y = some ((inR y.2.1 y.2.2.1 y.1, ()), ()) := by
  unfold r82 m82
  simp only [cond_and]
  rfl

theorem l1In_ok (y : PTup i68) : r68 y = some ((inR y.2.1 y.2.2.1 y.1, ()), ()) := by
  unfold r68 m68
  simp only [cond_and]
  rfl

theorem isByte_ok (y : PTup i80) : r80 y = some ((inR 0 255 y.1, ()), ()) := by
  unfold r80 m80
  simp only [within_ok, Option.bind_some]

theorem l5Byte_ok (y : PTup i67) : r67 y = some ((inR 0 255 y.1, ()), ()) := by
  unfold r67 m67
  simp only [l1In_ok, Option.bind_some]

theorem isTime_ok (y : PTup i81) : r81 y = some ((inR 0 20000 y.1, ()), ()) := by
  unfold r81 m81
  simp only [within_ok, Option.bind_some]

theorem bytesOk_ok (l : List Int) (hl : l.length ≤ 4611686018427387904) : r103 (l, ()) = some ((allR 0 255 l, ()), ()) := by
  have key := all_list_loop (fun k i => n103_0 r80 k (l, ((l.length : Int), ())) () ((i : Int), ())) l (inR 0 255) (Sum.inl ((l.length : Int), ()), ()) (Sum.inr (false, ()), ())
    (fun k i h hq => by
      simp only [n103_0, w103_0, lenI_def]
      rw [ltI_t (by omega), leI_t (by omega), rdE_nat .i l i h, isByte_ok, wI_succ (by omega)]
      simp only [cond_true, Option.bind_some, hq, Bool.not_true, cond_false])
    (fun k i h hq => by
      simp only [n103_0, w103_0, lenI_def]
      rw [ltI_t (by omega), leI_t (by omega), rdE_nat .i l i h, isByte_ok]
      simp only [cond_true, Option.bind_some, hq, Bool.not_false])
    (fun k => by
      simp only [n103_0, w103_0, lenI_def]
      rw [ltI_f (by omega)]; rfl) fuel 0 (by omega) (by have := fuel_big; omega)
  unfold r103 m103 L103_0
  simp only [lenI_def]
  simp only [Int.natCast_zero, List.drop_zero] at key
  rw [key]
  unfold allR
  cases l.all (inR 0 255) <;> rfl

theorem colorsOk_ok (l : List Int) (hl : l.length ≤ 4611686018427387904) : r116 (l, ()) = some ((allR 0 63 l, ()), ()) := by
  have key := all_list_loop (fun k i => n116_0 r82 k (l, ((l.length : Int), ())) () ((i : Int), ())) l (inR 0 63) (Sum.inl ((l.length : Int), ()), ()) (Sum.inr (false, ()), ())
    (fun k i h hq => by
      simp only [n116_0, w116_0, lenI_def]
      rw [ltI_t (by omega), leI_t (by omega), rdE_nat .i l i h, within_ok, wI_succ (by omega)]
      simp only [cond_true, Option.bind_some, hq, Bool.not_true, cond_false])
    (fun k i h hq => by
      simp only [n116_0, w116_0, lenI_def]
      rw [ltI_t (by omega), leI_t (by omega), rdE_nat .i l i h, within_ok]
      simp only [cond_true, Option.bind_some, hq, Bool.not_false])
    (fun k => by
      simp only [n116_0, w116_0, lenI_def]
      rw [ltI_f (by omega)]; rfl) fuel 0 (by omega) (by have := fuel_big; omega)
  unfold r116 m116 L116_0
  simp only [lenI_def]
  simp only [Int.natCast_zero, List.drop_zero] at key
  rw [key]
  unfold allR
  cases l.all (inR 0 63) <;> rfl

/-! ### pads -/

def padsOk (l : List Int) : Bool := leI (l.length : Int) 20 && allR 0 255 l

theorem implPadsOk_ok (l : List Int) (hl : l.length ≤ 4611686018427387904) : r76 (l, ()) = some ((padsOk l, ()), ()) := by
  unfold r76 m76
  simp only [bytesOk_ok l hl, Option.bind_some, lenI_def, cond_and]
  rfl

theorem specPadsOk_ok (l : List Int) (hl : l.length ≤ 4611686018427387904) : r62 (l, ()) = some ((padsOk l, ()), ()) := by
  have key := all_list_loop (fun k i => n62_0 r67 k (l, ()) () ((i : Int), ())) l (inR 0 255) (Sum.inl ((l.length : Int), ()), ()) (Sum.inr (false, ()), ())
    (fun k i h hq => by
      simp only [n62_0, w62_0, lenI_def]
      rw [ltI_t (by omega), leI_t (by omega), rdE_nat .i l i h, l5Byte_ok, wI_succ (by omega)]
      simp only [cond_true, Option.bind_some, hq, Bool.not_true, cond_false])
    (fun k i h hq => by
      simp only [n62_0, w62_0, lenI_def]
      rw [ltI_t (by omega), leI_t (by omega), rdE_nat .i l i h, l5Byte_ok]
      simp only [cond_true, Option.bind_some, hq, Bool.not_false])
    (fun k => by
      simp only [n62_0, w62_0, lenI_def]
      rw [ltI_f (by omega)]; rfl) fuel 0 (by omega) (by have := fuel_big; omega)
  unfold r62 m62 L62_0
  simp only [lenI_def]
  simp only [Int.natCast_zero, List.drop_zero] at key
  rw [key]
  unfold padsOk allR
  cases l.all (inR 0 255) <;> simp [sumElim]

/-! ### images -/

def bankOk (l : List Int) : Bool := eqI (l.length : Int) 256 && allR 0 255 l
def imageOk (f : List (List Int)) : Bool := f.all bankOk && inR 1 8 (f.length : Int)

theorem implImageOk_ok (f : List (List Int)) (hf : small f) : r102 ((f, ()), ()) = some ((imageOk f, ()), ()) := by
  have h0 := hf.1
  have key := all_list_loop (fun k i => n102_0 r103 r82 k (f, ((f.length : Int), ())) () ((i : Int), ())) f bankOk (Sum.inl ((f.length : Int), ()), ()) (Sum.inr (false, ()), ())
    (fun k i h hq => by
      have hl := hf.2.1 _ (List.getElem_mem h)
      simp only [bankOk, Bool.and_eq_true] at hq
      simp only [n102_0, w102_0, lenI_def]
      rw [ltI_t (by omega), leI_t (by omega), rdE_nat .n f i h, bytesOk_ok _ (by omega), wI_succ (by omega)]
      have h1 : (f[i].length : Int) = 256 := by simpa [eqI_d] using hq.1
      rw [neI_f h1]
      simp only [cond_true, Option.bind_some, hq.2, Bool.not_true, cond_false])
    (fun k i h hq => by
      have hl := hf.2.1 _ (List.getElem_mem h)
      simp only [n102_0, w102_0, lenI_def]
      rw [ltI_t (by omega), leI_t (by omega), rdE_nat .n f i h, bytesOk_ok _ (by omega)]
      by_cases h1 : (f[i].length : Int) = 256
      · rw [neI_f h1]
        simp only [bankOk, eqI_t h1, Bool.true_and] at hq
        simp only [cond_true, Option.bind_some, hq, Bool.not_false, cond_false]
      · rw [neI_t h1]
        simp only [cond_true])
    (fun k => by
      simp only [n102_0, w102_0, lenI_def]
      rw [ltI_f (by omega)]; rfl) fuel 0 (by omega) (by have := fuel_big; omega)
  unfold r102 m102 L102_0
  simp only [lenI_def]
  simp only [Int.natCast_zero, List.drop_zero] at key
  rw [key]
  unfold imageOk
  cases f.all bankOk <;> simp [sumElim, within_ok]

theorem specBank_loop (f : List (List Int)) (i : Nat) (h : i < f.length) (hl : (f[i].length : Int) = 256) :
    L96_0 ((i : Int), ()) ((f, ()), ()) ((0 : Int), ()) = some (if f[i].all (inR 0 255) then (Sum.inl ((256 : Int), ()), ((f, ()), ())) else (Sum.inr (false, ()), ((f, ()), ()))) := by
  have key := all_list_loop (fun k j => n96_0 r68 k ((i : Int), ()) ((f, ()), ()) ((j : Int), ())) f[i] (inR 0 255) (Sum.inl ((256 : Int), ()), ((f, ()), ())) (Sum.inr (false, ()), ((f, ()), ()))
    (fun k j hj hq => by
      simp only [n96_0, w96_0, lenI_def]
      rw [rdE_nat .n f i h, ltI_t (show (j : Int) < 256 by omega), leI_t (show (0 : Int) ≤ (i : Int) by omega), ltI_t (show (i : Int) < (f.length : Int) by omega), leI_t (show (0 : Int) ≤ (j : Int) by omega), ltI_t (by omega), wI_succ (by omega),
        show rdI f[i] (j : Int) = f[i][j] by simp [rdI, List.getD, hj], l1In_ok]
      simp only [cond_true, Option.bind_some, hq, Bool.not_true, cond_false])
    (fun k j hj hq => by
      simp only [n96_0, w96_0, lenI_def]
      rw [rdE_nat .n f i h, ltI_t (show (j : Int) < 256 by omega), leI_t (show (0 : Int) ≤ (i : Int) by omega), ltI_t (show (i : Int) < (f.length : Int) by omega), leI_t (show (0 : Int) ≤ (j : Int) by omega), ltI_t (by omega),
        show rdI f[i] (j : Int) = f[i][j] by simp [rdI, List.getD, hj], l1In_ok]
      simp only [cond_true, Option.bind_some, hq, Bool.not_false])
    (fun k => by
      simp only [n96_0, w96_0, lenI_def]
      rw [ltI_f (by omega)]
      simp only [cond_false, hl]) fuel 0 (by omega) (by have := fuel_big; omega)
  exact key

theorem specImageOk_ok (f : List (List Int)) (hf : small f) : r96 ((f, ()), ()) = some ((imageOk f, ()), ()) := by
  have h0 := hf.1
  have key := all_list_loop (fun k i => n96_1 r68 L96_0 k () ((f, ()), ()) ((i : Int), ())) f bankOk (Sum.inl ((f.length : Int), ()), ((f, ()), ())) (Sum.inr (false, ()), ((f, ()), ()))
    (fun k i h hq => by
      simp only [bankOk, Bool.and_eq_true, allR] at hq
      have h1 : (f[i].length : Int) = 256 := by simpa [eqI_d] using hq.1
      simp only [n96_1, w96_1, lenI_def]
      rw [ltI_t (by omega), leI_t (by omega), rdE_nat .n f i h, wI_succ (by omega), neI_f h1, specBank_loop f i h h1, hq.2]
      simp only [cond_true, cond_false, Option.bind_some, if_true, sumElim])
    (fun k i h hq => by
      simp only [n96_1, w96_1, lenI_def]
      rw [ltI_t (by omega), leI_t (by omega), rdE_nat .n f i h]
      by_cases h1 : (f[i].length : Int) = 256
      · rw [neI_f h1, specBank_loop f i h h1]
        simp only [bankOk, eqI_t h1, Bool.true_and, allR] at hq
        rw [hq]
        simp only [cond_true, cond_false, Option.bind_some, sumElim, Bool.false_eq_true, if_false]
      · rw [neI_t h1]
        simp only [cond_true])
    (fun k => by
      simp only [n96_1, w96_1, lenI_def]
      rw [ltI_f (by omega)]; rfl) fuel 0 (by omega) (by have := fuel_big; omega)
  unfold r96 m96 L96_1
  simp only [lenI_def]
  simp only [Int.natCast_zero, List.drop_zero] at key
  rw [key]
  unfold imageOk
  cases f.all bankOk <;> simp [sumElim, l1In_ok]

/-! ### memory -/

def memOk (f : List (List Int)) (x : Tup memL) : Bool := imageOk f && (eqI (x.1.length : Int) 512 && (allR 0 255 x.1 && inR 0 ((f.length : Int) - 1) x.2.1))

theorem implMemOk_ok (f : List (List Int)) (x : Tup memL) (hf : small f) (hx : x.1.length ≤ 4398046511104) : r75 ((f, ()), (x, ())) = some ((memOk f x, ()), ()) := by
  unfold r75 m75
  have := hf.1
  simp only [implImageOk_ok f hf, bytesOk_ok x.1 (by omega), within_ok, Option.bind_some, lenI_def, cond_and]
  rw [wI_id (by omega) (by omega)]
  rfl

theorem specMemOk_ok (f : List (List Int)) (x : Tup memL) (hf : small f) (hx : x.1.length ≤ 4398046511104) : r63 ((f, ()), (x, ())) = some ((memOk f x, ()), ()) := by
  unfold r63 m63
  have := hf.1
  simp only [specImageOk_ok f hf, l1In_ok, Option.bind_some, lenI_def]
  rw [wI_id (by omega) (by omega)]
  unfold memOk
  cases imageOk f with
  | false => rfl
  | true =>
    simp only [Bool.not_true, cond_false, Bool.true_and]
    by_cases h1 : (x.1.length : Int) = 512
    · rw [neI_f h1, eqI_t h1]
      simp only [cond_false, Bool.true_and]
      cases h2 : inR 0 ((f.length : Int) - 1) x.2.1 with
      | false => simp
      | true =>
        have key := all_list_loop (fun k i => n63_0 r96 r68 r67 k () (x, ()) ((i : Int), ())) x.1 (inR 0 255) (Sum.inl ((512 : Int), ()), (x, ())) (Sum.inr (false, ()), (x, ()))
          (fun k i h hq => by
            simp only [n63_0, w63_0, lenI_def]
            rw [ltI_t (show (i : Int) < 512 by omega), leI_t (by omega), ltI_t (by omega), rdE_nat .i x.1 i h, l5Byte_ok, wI_succ (by omega)]
            simp only [cond_true, Option.bind_some, hq, Bool.not_true, cond_false])
          (fun k i h hq => by
            simp only [n63_0, w63_0, lenI_def]
            rw [ltI_t (show (i : Int) < 512 by omega), leI_t (by omega), ltI_t (by omega), rdE_nat .i x.1 i h, l5Byte_ok]
            simp only [cond_true, Option.bind_some, hq, Bool.not_false])
          (fun k => by
            simp only [n63_0, w63_0, lenI_def]
            rw [ltI_f (by omega)]
            simp only [cond_false, h1]) fuel 0 (by omega) (by have := fuel_big; omega)
        unfold L63_0
        simp only [Int.natCast_zero, List.drop_zero] at key
        simp only [Bool.not_true, cond_false]
        rw [key]
        unfold allR
        cases x.1.all (inR 0 255) <;> simp [sumElim]
    · rw [neI_t h1, eqI_f h1]
      rfl

/-! ### a processor, a sound unit -/

def cpuOk (c : Tup cpuL) : Bool := inR 0 255 c.1 && (inR 0 255 c.2.1 && (inR 0 255 c.2.2.1 && inR 0 65535 c.2.2.2.1))

theorem implCpuOk_ok (c : Tup cpuL) : r77 (c, ()) = some ((cpuOk c, ()), ()) := by
  unfold r77 m77
  simp only [isByte_ok, within_ok, Option.bind_some, cond_and]
  rfl

theorem specCpuOk_ok (c : Tup cpuL) : r64 (c, ()) = some ((cpuOk c, ()), ()) := by
  unfold r64 m64
  simp only [l5Byte_ok, l1In_ok, Option.bind_some, cond_and]
  rfl

def apuOk (a : Tup apuL) : Bool := inR 0 20000 a.1 && (inR 0 255 a.2.1 && (inR 0 255 a.2.2.1 && (inR 0 1 a.2.2.2.1 && inR 0 31 a.2.2.2.2.1)))

theorem implApuOk_ok (a : Tup apuL) : r107 (a, ()) = some ((apuOk a, ()), ()) := by
  unfold r107 m107
  simp only [isTime_ok, isByte_ok, within_ok, Option.bind_some, cond_and]
  rfl

theorem specApuOk_ok (a : Tup apuL) : r100 (a, ()) = some ((apuOk a, ()), ()) := by
  unfold r100 m100
  simp only [l5Byte_ok, l1In_ok, Option.bind_some, cond_and]
  rfl

end Go.Proofs.YtfafepmjpphfeaaGreat.Plain
