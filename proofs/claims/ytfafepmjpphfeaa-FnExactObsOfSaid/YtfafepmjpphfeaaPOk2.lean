/- Whether a picture unit, a row of records, the units that come after are right: the program and the reference ask the same. No condition beyond those that each lemma states. -/
import Derived.Test.YtfafepmjpphfeaaPOk
set_option linter.unusedVariables false
set_option linter.unusedSimpArgs false
namespace Go.Proofs.Ytfafepmjpphfeaa.Plain
open Go Go.Tev

/-! ### a picture unit -/

def dotsN (t : Int) : Int := if 48 < Int.tmod t 64 then 0 else Int.tmod t 64
def ppuNum (p : Tup ppuL) : Bool := inR 0 20000 p.1 && (inR 0 255 p.2.1 && (inR 0 255 p.2.2.1 && (inR 0 15 p.2.2.2.1 && inR 0 63 p.2.2.2.2.1)))
def ppuRows (p : Tup ppuL) : Bool := eqI (p.2.2.2.2.2.2.1.length : Int) 16 && (allR 0 63 p.2.2.2.2.2.2.1 && (eqI (p.2.2.2.2.2.2.2.1.length : Int) (dotsN p.1) && allR 0 63 p.2.2.2.2.2.2.2.1))
def ppuOk (p : Tup ppuL) : Bool := ppuNum p && ppuRows p

/-! ### a row of records -/

abbrev ringL : List LT := [.int .i64, .sl false .t]

/-- a record at a place is right -/
def ringAt (l : List (Int × Int × Int)) (i : Nat) : Bool := inR 0 20000 (rdE .t l (i : Int)).1 && (inR 0 7 (rdE .t l (i : Int)).2.1 && (inR 0 255 (rdE .t l (i : Int)).2.2 && (decide (i = 0) || !ltI (rdE .t l (i : Int)).1 (rdE .t l ((i - 1 : Nat) : Int)).1)))
def ringOk (r : Tup ringL) : Bool := (List.range' 0 r.2.1.length).all (ringAt r.2.1) && (inR 1 16 r.1 && leI (r.2.1.length : Int) r.1)

theorem wI_pred {i : Nat} (h : i ≠ 0) (h2 : i < 9223372036854775807) : wI ((i : Int) - 1) = ((i - 1 : Nat) : Int) := by
  rw [wI_id (by omega) (by omega)]; omega

/-- no record of a time ahead of one -/
def ringHead (r : Tup ringL) (t : Int) : Bool := if r.2.1.length = 0 then true else leI t (rdE .t r.2.1 (0 : Int)).1

/-! ### what is told -/

def framesOk (f : List (List Int)) (t : Int) : Bool := f.all (fun l => eqI (l.length : Int) 48) && eqI (f.length : Int) (Int.tdiv (t + 15) 64)

theorem tdiv_id {t c d : Int} (h0 : 0 ≤ t) (h1 : t ≤ 20000) (hc : 0 ≤ c) (hc2 : c ≤ 64) (hd : d = 64 ∨ d = 16) : wI (Int.tdiv (t + c) d) = Int.tdiv (t + c) d := by
  rw [Int.tdiv_eq_ediv_of_nonneg (by omega)]
  rcases hd with rfl | rfl <;> exact wI_id (by omega) (by omega)

def samplesOk (s : List Int) (t : Int) : Bool := eqI (s.length : Int) (Int.tdiv t 16)

/-! ### the units that come after -/

abbrev picL : List LT := ppuL ++ (ringL ++ [.sl false .n])
abbrev sndL : List LT := apuL ++ (ringL ++ [.sl false .i])
abbrev pcPpu (w : Tup picL) : Tup ppuL := (w.1, (w.2.1, (w.2.2.1, (w.2.2.2.1, (w.2.2.2.2.1, (w.2.2.2.2.2.1, (w.2.2.2.2.2.2.1, (w.2.2.2.2.2.2.2.1, ()))))))))
abbrev pcRing (w : Tup picL) : Tup ringL := (w.2.2.2.2.2.2.2.2.1, (w.2.2.2.2.2.2.2.2.2.1, ()))
abbrev sdApu (w : Tup sndL) : Tup apuL := (w.1, (w.2.1, (w.2.2.1, (w.2.2.2.1, (w.2.2.2.2.1, (w.2.2.2.2.2.1, (w.2.2.2.2.2.2.1, ())))))))
abbrev sdRing (w : Tup sndL) : Tup ringL := (w.2.2.2.2.2.2.2.1, (w.2.2.2.2.2.2.2.2.1, ()))
def picOkS (w : Tup picL) : Prop := ppuOkS (pcPpu w) ∧ (pcRing w).2.1.length ≤ 4398046511104 ∧ small w.2.2.2.2.2.2.2.2.2.2.1
def sndOkS (w : Tup sndL) : Prop := (sdRing w).2.1.length ≤ 4398046511104 ∧ w.2.2.2.2.2.2.2.2.2.1.length ≤ 4398046511104

def picOk (w : Tup picL) : Bool := ppuOk (pcPpu w) && (ringOk (pcRing w) && (ringHead (pcRing w) w.1 && framesOk w.2.2.2.2.2.2.2.2.2.2.1 w.1))
def sndOk (w : Tup sndL) : Bool := apuOk (sdApu w) && (ringOk (sdRing w) && (ringHead (sdRing w) w.1 && samplesOk w.2.2.2.2.2.2.2.2.2.1 w.1))

theorem ppuOk_t {p : Tup ppuL} (h : ppuOk p = true) : 0 ≤ p.1 ∧ p.1 ≤ 20000 := by
  simp only [ppuOk, ppuNum, Bool.and_eq_true] at h
  exact inR_iff.1 h.1.1
theorem apuOk_t {p : Tup apuL} (h : apuOk p = true) : 0 ≤ p.1 ∧ p.1 ≤ 20000 := by
  simp only [apuOk, Bool.and_eq_true] at h
  exact inR_iff.1 h.1

end Go.Proofs.Ytfafepmjpphfeaa.Plain
