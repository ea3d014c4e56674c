/- Whether a console whose parts go apart is right: the program and the reference ask the same. No condition beyond those that each lemma states. -/
import Derived.Test.YtfafepmjpphfeaaGreatPOk2
set_option linter.unusedVariables false
set_option linter.unusedSimpArgs false
namespace Go.Proofs.YtfafepmjpphfeaaGreat.Plain
open Go Go.Tev

abbrev splitL : List LT := .sl false .n :: .sl false .i :: (memL ++ (cpuL ++ (padL ++ (.int .i64 :: .bool :: .int .i64 :: .bool :: .int .i64 :: .int .i64 :: .sl false .i :: (picL ++ sndL)))))

section
variable (s : Tup splitL)
abbrev spImg : List (List Int) := s.1
abbrev spPads : List Int := s.2.1
abbrev spMem : Tup memL := (s.2.2.1, (s.2.2.2.1, ()))
abbrev spCpu : Tup cpuL := (s.2.2.2.2.1, (s.2.2.2.2.2.1, (s.2.2.2.2.2.2.1, (s.2.2.2.2.2.2.2.1, (s.2.2.2.2.2.2.2.2.1, (s.2.2.2.2.2.2.2.2.2.1, (s.2.2.2.2.2.2.2.2.2.2.1, (s.2.2.2.2.2.2.2.2.2.2.2.1, ()))))))))
abbrev spPad : Tup padL := (s.2.2.2.2.2.2.2.2.2.2.2.2.1, (s.2.2.2.2.2.2.2.2.2.2.2.2.2.1, ()))
abbrev spShift : Int := s.2.2.2.2.2.2.2.2.2.2.2.2.2.1
abbrev spT : Int := s.2.2.2.2.2.2.2.2.2.2.2.2.2.2.1
abbrev spNmi : Bool := s.2.2.2.2.2.2.2.2.2.2.2.2.2.2.2.1
abbrev spCtrl : Int := s.2.2.2.2.2.2.2.2.2.2.2.2.2.2.2.2.1
abbrev spKnown : Bool := s.2.2.2.2.2.2.2.2.2.2.2.2.2.2.2.2.2.1
abbrev spKnownAt : Int := s.2.2.2.2.2.2.2.2.2.2.2.2.2.2.2.2.2.2.1
abbrev spSteps : Int := s.2.2.2.2.2.2.2.2.2.2.2.2.2.2.2.2.2.2.2.1
abbrev spReads : List Int := s.2.2.2.2.2.2.2.2.2.2.2.2.2.2.2.2.2.2.2.2.1
abbrev spPic : Tup picL := (s.2.2.2.2.2.2.2.2.2.2.2.2.2.2.2.2.2.2.2.2.2.1, (s.2.2.2.2.2.2.2.2.2.2.2.2.2.2.2.2.2.2.2.2.2.2.1, (s.2.2.2.2.2.2.2.2.2.2.2.2.2.2.2.2.2.2.2.2.2.2.2.1, (s.2.2.2.2.2.2.2.2.2.2.2.2.2.2.2.2.2.2.2.2.2.2.2.2.1, (s.2.2.2.2.2.2.2.2.2.2.2.2.2.2.2.2.2.2.2.2.2.2.2.2.2.1, (s.2.2.2.2.2.2.2.2.2.2.2.2.2.2.2.2.2.2.2.2.2.2.2.2.2.2.1, (s.2.2.2.2.2.2.2.2.2.2.2.2.2.2.2.2.2.2.2.2.2.2.2.2.2.2.2.1, (s.2.2.2.2.2.2.2.2.2.2.2.2.2.2.2.2.2.2.2.2.2.2.2.2.2.2.2.2.1, (s.2.2.2.2.2.2.2.2.2.2.2.2.2.2.2.2.2.2.2.2.2.2.2.2.2.2.2.2.2.1, (s.2.2.2.2.2.2.2.2.2.2.2.2.2.2.2.2.2.2.2.2.2.2.2.2.2.2.2.2.2.2.1, (s.2.2.2.2.2.2.2.2.2.2.2.2.2.2.2.2.2.2.2.2.2.2.2.2.2.2.2.2.2.2.2.1, ())))))))))))
abbrev spSnd : Tup sndL := s.2.2.2.2.2.2.2.2.2.2.2.2.2.2.2.2.2.2.2.2.2.2.2.2.2.2.2.2.2.2.2.2
end

theorem ltI_not (a b : Int) : ltI a b = !leI b a := by
  by_cases h : a < b
  · rw [ltI_t h, leI_f (by omega)]; rfl
  · rw [ltI_f h, leI_t (by omega)]; rfl

/-- the last record is not above a time -/
def ringLast (r : Tup ringL) (t : Int) : Bool := if r.2.1.length = 0 then true else leI (rdE .t r.2.1 ((r.2.1.length - 1 : Nat) : Int)).1 t

theorem ringUpto_ok (r : Tup ringL) (t : Int) (hl : r.2.1.length ≤ 4398046511104) : r83 (r, (t, ())) = some ((ringLast r t, ()), ()) := by
  unfold r83 m83 ringLast
  simp only [lenI_def]
  by_cases h : r.2.1.length = 0
  · rw [eqI_t (by omega), if_pos h]; rfl
  · rw [eqI_f (by omega), if_neg h, wI_pred h (by omega), leI_t (by omega), ltI_t (by omega)]; rfl

def lastT (r : Tup ringL) : Int := if r.2.1.length = 0 then 0 else (rdE .t r.2.1 ((r.2.1.length - 1 : Nat) : Int)).1

theorem l14Last_ok (r : Tup ringL) (hl : r.2.1.length ≤ 4398046511104) : r69 (r, ()) = some ((lastT r, ()), ()) := by
  unfold r69 m69 lastT
  simp only [lenI_def]
  by_cases h : r.2.1.length = 0
  · rw [eqI_t (by omega), if_pos h]; rfl
  · rw [eqI_f (by omega), if_neg h, wI_pred h (by omega), leI_t (by omega), ltI_t (by omega)]; rfl

theorem lastT_le (r : Tup ringL) (t : Int) (h : 0 ≤ t) : leI (lastT r) t = ringLast r t := by
  unfold lastT ringLast
  split
  · rw [leI_t h]
  · rfl

def splitOkS (s : Tup splitL) : Prop := small (spImg s) ∧ (spPads s).length ≤ 4398046511104 ∧ (spMem s).1.length ≤ 4398046511104 ∧ (spReads s).length ≤ 4398046511104 ∧ picOkS (spPic s) ∧ sndOkS (spSnd s)

def splitNum (s : Tup splitL) : Bool := inR 0 255 (spShift s) && (inR 0 255 (spCtrl s) && (inR 0 20000 (spT s) && (inR 0 (spT s) (spKnownAt s) && inR 0 (spT s) (spSteps s))))
def splitParts (s : Tup splitL) : Bool := memOk (spImg s) (spMem s) && (padsOk (spPads s) && (cpuOk (spCpu s) && (picOk (spPic s) && sndOk (spSnd s))))
def splitEnd (s : Tup splitL) : Bool := leI (spPic s).1 (spT s) && (leI (spSnd s).1 (spT s) && (ringLast (pcRing (spPic s)) (spT s) && ringLast (sdRing (spSnd s)) (spT s)))
def splitOk (s : Tup splitL) : Bool := splitParts s && (splitNum s && splitEnd s)

theorem implSplitOk_ok (s : Tup splitL) (h : splitOkS s) : r32 (s, ()) = some ((splitOk s, ()), ()) := by
  unfold r32 m32
  obtain ⟨h1, h2, h3, _, h5, h6⟩ := h
  simp only [implMemOk_ok (spImg s) (spMem s) h1 h3, implPadsOk_ok (spPads s) (by omega), implCpuOk_ok (spCpu s), implPictureOk_ok (spPic s) h5, implSoundOk_ok (spSnd s) h6, isByte_ok, isTime_ok, within_ok,
    ringUpto_ok (pcRing (spPic s)) _ h5.2.1, ringUpto_ok (sdRing (spSnd s)) _ h6.1, Option.bind_some]
  unfold splitOk splitParts splitNum splitEnd
  generalize memOk (spImg s) (spMem s) = x0
  generalize padsOk (spPads s) = x1
  generalize cpuOk (spCpu s) = x2
  generalize picOk (spPic s) = x3
  generalize sndOk (spSnd s) = x4
  generalize ringLast (pcRing (spPic s)) (spT s) = x5
  generalize ringLast (sdRing (spSnd s)) (spT s) = x6
  cases x0 <;> cases x1 <;> cases x2 <;> cases x3 <;> cases x4 <;> first | (simp [cond_and]; done) | (simp [cond_and, Bool.and_assoc]; done)

theorem specSplitOk_ok (s : Tup splitL) (h : splitOkS s) : r18 (s, ()) = some ((splitOk s, ()), ()) := by
  unfold r18 m18
  obtain ⟨h1, h2, h3, _, h5, h6⟩ := h
  simp only [specMemOk_ok (spImg s) (spMem s) h1 h3, specPadsOk_ok (spPads s) (by omega), specCpuOk_ok (spCpu s), specPictureOk_ok (spPic s) h5, specSoundOk_ok (spSnd s) h6, l5Byte_ok, l1In_ok,
    l14Last_ok (pcRing (spPic s)) h5.2.1, l14Last_ok (sdRing (spSnd s)) h6.1, Option.bind_some]
  unfold splitOk splitParts splitNum splitEnd
  generalize memOk (spImg s) (spMem s) = x0
  generalize padsOk (spPads s) = x1
  generalize cpuOk (spCpu s) = x2
  generalize picOk (spPic s) = x3
  generalize sndOk (spSnd s) = x4
  cases hT : inR 0 20000 (spT s) with
  | false => cases x0 <;> cases x1 <;> cases x2 <;> cases x3 <;> cases x4 <;> simp [cond_nand]
  | true =>
    have t0 := (inR_iff.1 hT).1
    rw [lastT_le _ _ t0, lastT_le _ _ t0]
    have e1 : ltI (spT s) (spPic s).1 = !leI (spPic s).1 (spT s) := ltI_not _ _
    have e2 : ltI (spT s) (spSnd s).1 = !leI (spSnd s).1 (spT s) := ltI_not _ _
    rw [e1, e2]
    cases x0 <;> cases x1 <;> cases x2 <;> cases x3 <;> cases x4 <;> first | (simp [cond_nand, cond_and]; done) | (simp [cond_nand, cond_and, Bool.and_assoc]; done) | (simp [cond_nand, cond_and, Bool.and_assoc]; rfl)

end Go.Proofs.YtfafepmjpphfeaaGreat.Plain
