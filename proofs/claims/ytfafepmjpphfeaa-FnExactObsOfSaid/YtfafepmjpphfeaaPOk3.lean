/- Whether a console whose parts go apart is right: the program and the reference ask the same. No condition beyond those that each lemma states. -/
import Derived.Test.YtfafepmjpphfeaaPOk2
set_option linter.unusedVariables false
set_option linter.unusedSimpArgs false
namespace Go.Proofs.Ytfafepmjpphfeaa.Plain
open Go Go.Tev

abbrev splitL : List LT := .sl false .n :: .sl false .i :: (memL ++ (cpuL ++ (padL ++ (.int .i64 :: .bool :: .int .i64 :: .bool :: .int .i64 :: .int .i64 :: .sl false .i :: (picL ++ sndL)))))

section
variable (s : Tup splitL)
abbrev spImg : List (List Int) := s.1
abbrev spPads : List Int := s.2.1
abbrev spMem : Tup memL := (s.2.2.1, (s.2.2.2.1, ()))
abbrev spCpu : Tup cpuL := (s.2.2.2.2.1, (s.2.2.2.2.2.1, (s.2.2.2.2.2.2.1, (s.2.2.2.2.2.2.2.1, (s.2.2.2.2.2.2.2.2.1, (s.2.2.2.2.2.2.2.2.2.1, (s.2.2.2.2.2.2.2.2.2.2.1, (s.2.2.2.2.2.2.2.2.2.2.2.1, ()))))))))
abbrev spPad : Tup padL := (s.2.2.2.2.2.2.2.2.2.2.2.2.1, (s.2.2.2.2.2.2.2.2.2.2.2.2.2.1, ()))
abbrev spShift : Int := s.2.2.2.2.2.2.2.2.2.2.2.2.2.1
abbrev spT : Int := s.2.2.2.2.2.2.2.2.2.2.2.2.2.2.1
abbrev spNmi : Bool := s.2.2.2.2.2.2.2.2.2.2.2.2.2.2.2.1
abbrev spCtrl : Int := s.2.2.2.2.2.2.2.2.2.2.2.2.2.2.2.2.1
abbrev spKnown : Bool := s.2.2.2.2.2.2.2.2.2.2.2.2.2.2.2.2.2.1
abbrev spKnownAt : Int := s.2.2.2.2.2.2.2.2.2.2.2.2.2.2.2.2.2.2.1
abbrev spSteps : Int := s.2.2.2.2.2.2.2.2.2.2.2.2.2.2.2.2.2.2.2.1
abbrev spReads : List Int := s.2.2.2.2.2.2.2.2.2.2.2.2.2.2.2.2.2.2.2.2.1
abbrev spPic : Tup picL := (s.2.2.2.2.2.2.2.2.2.2.2.2.2.2.2.2.2.2.2.2.2.1, (s.2.2.2.2.2.2.2.2.2.2.2.2.2.2.2.2.2.2.2.2.2.2.1, (s.2.2.2.2.2.2.2.2.2.2.2.2.2.2.2.2.2.2.2.2.2.2.2.1, (s.2.2.2.2.2.2.2.2.2.2.2.2.2.2.2.2.2.2.2.2.2.2.2.2.1, (s.2.2.2.2.2.2.2.2.2.2.2.2.2.2.2.2.2.2.2.2.2.2.2.2.2.1, (s.2.2.2.2.2.2.2.2.2.2.2.2.2.2.2.2.2.2.2.2.2.2.2.2.2.2.1, (s.2.2.2.2.2.2.2.2.2.2.2.2.2.2.2.2.2.2.2.2.2.2.2.2.2.2.2.1, (s.2.2.2.2.2.2.2.2.2.2.2.2.2.2.2.2.2.2.2.2.2.2.2.2.2.2.2.2.1, (s.2.2.2.2.2.2.2.2.2.2.2.2.2.2.2.2.2.2.2.2.2.2.2.2.2.2.2.2.2.1, (s.2.2.2.2.2.2.2.2.2.2.2.2.2.2.2.2.2.2.2.2.2.2.2.2.2.2.2.2.2.2.1, (s.2.2.2.2.2.2.2.2.2.2.2.2.2.2.2.2.2.2.2.2.2.2.2.2.2.2.2.2.2.2.2.1, ())))))))))))
abbrev spSnd : Tup sndL := s.2.2.2.2.2.2.2.2.2.2.2.2.2.2.2.2.2.2.2.2.2.2.2.2.2.2.2.2.2.2.2.2
end

theorem ltI_not (a b : Int) : ltI a b = !leI b a := by
  by_cases h : a < b
  · rw [ltI_t h, leI_f (by omega)]; rfl
  · rw [ltI_f h, leI_t (by omega)]; rfl

/-- the last record is not above a time -/
def ringLast (r : Tup ringL) (t : Int) : Bool := if r.2.1.length = 0 then true else leI (rdE .t r.2.1 ((r.2.1.length - 1 : Nat) : Int)).1 t

def lastT (r : Tup ringL) : Int := if r.2.1.length = 0 then 0 else (rdE .t r.2.1 ((r.2.1.length - 1 : Nat) : Int)).1

theorem lastT_le (r : Tup ringL) (t : Int) (h : 0 ≤ t) : leI (lastT r) t = ringLast r t := by
  unfold lastT ringLast
  split
  · rw [leI_t h]
  · rfl

def splitOkS (s : Tup splitL) : Prop := small (spImg s) ∧ (spPads s).length ≤ 4398046511104 ∧ (spMem s).1.length ≤ 4398046511104 ∧ (spReads s).length ≤ 4398046511104 ∧ picOkS (spPic s) ∧ sndOkS (spSnd s)

def splitNum (s : Tup splitL) : Bool := inR 0 255 (spShift s) && (inR 0 255 (spCtrl s) && (inR 0 20000 (spT s) && (inR 0 (spT s) (spKnownAt s) && inR 0 (spT s) (spSteps s))))
def splitParts (s : Tup splitL) : Bool := memOk (spImg s) (spMem s) && (padsOk (spPads s) && (cpuOk (spCpu s) && (picOk (spPic s) && sndOk (spSnd s))))
def splitEnd (s : Tup splitL) : Bool := leI (spPic s).1 (spT s) && (leI (spSnd s).1 (spT s) && (ringLast (pcRing (spPic s)) (spT s) && ringLast (sdRing (spSnd s)) (spT s)))
def splitOk (s : Tup splitL) : Bool := splitParts s && (splitNum s && splitEnd s)

end Go.Proofs.Ytfafepmjpphfeaa.Plain
