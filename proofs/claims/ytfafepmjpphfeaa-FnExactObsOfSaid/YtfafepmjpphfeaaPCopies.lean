/- Copies are what they are copies of; what is seen of a console; a console in step of one whose parts go apart. No condition beyond those that each lemma states. -/
import Derived.Test.YtfafepmjpphfeaaPOk3
set_option linter.unusedVariables false
set_option linter.unusedSimpArgs false
namespace Go.Proofs.Ytfafepmjpphfeaa.Plain
open Go Go.Tev

theorem copyInts_ok (l : List Int) (h : l.length ≤ 4398046511104) : r51 (l, ()) = some ((l, ()), ()) := by
  unfold r51 m51
  rw [leN_t (by simp only [E.most]; omega)]
  rfl

theorem copyFrames_ok (f : List (List Int)) (h : small f) : r50 (f, ()) = some ((f, ()), ()) := by
  have h0 := h.1
  have key := app_list_loop (fun k i out => n50_0 r51 k (f, ((f.length : Int), ())) () (out, ((i : Int), ()))) f (fun out => (Sum.inl (out, ((f.length : Int), ())), ()))
    (fun k i out hi ho => by
      simp only [n50_0, w50_0, lenI_def]
      rw [ltI_t (by omega), leI_t (by omega), rdE_nat .n f i hi, wI_succ (by omega), copyInts_ok _ (h.2.1 _ (List.getElem_mem hi))]
      simp only [cond_true, Option.bind_some]
      rw [leN_t (by simp only [E.most, List.length_singleton]; omega)]
      rfl)
    (fun k out ho => by
      simp only [n50_0, w50_0, lenI_def]
      rw [ltI_f (by omega)]; rfl) fuel 0 [] (by omega) rfl (by have := fuel_big; omega)
  unfold r50 m50 L50_0
  simp only [lenI_def]
  simp only [Int.natCast_zero, List.drop_zero, List.nil_append] at key
  rw [key]
  rfl

theorem l12List_ok (f : List (List Int)) (h : small f) : r47 (f, ()) = some ((f, ()), ()) := by
  have h0 := h.1
  have key := app_list_loop (fun k i out => n47_0 k (f, ()) () (out, ((i : Int), ()))) f (fun out => (Sum.inl (out, ((f.length : Int), ())), ()))
    (fun k i out hi ho => by
      have hl := h.2.1 _ (List.getElem_mem hi)
      simp only [n47_0, w47_0, lenI_def]
      rw [ltI_t (by omega), leI_t (by omega), rdE_nat .n f i hi, wI_succ (by omega)]
      rw [leN_t (by simp only [E.most]; omega), leN_t (by simp only [E.most, List.length_singleton]; omega)]
      rfl)
    (fun k out ho => by
      simp only [n47_0, w47_0, lenI_def]
      rw [ltI_f (by omega)]; rfl) fuel 0 [] (by omega) rfl (by have := fuel_big; omega)
  unfold r47 m47 L47_0
  simp only [Int.natCast_zero, List.drop_zero, List.nil_append] at key
  rw [key]
  rfl

/-! ### what is seen -/

abbrev spFrames (s : Tup splitL) : List (List Int) := (spPic s).2.2.2.2.2.2.2.2.2.2.1
abbrev spSamples (s : Tup splitL) : List Int := (spSnd s).2.2.2.2.2.2.2.2.2.1
def obsOf (s : Tup splitL) : Tup obsL := (spFrames s, (spSamples s, (spReads s, ())))

theorem implObsOf_ok (s : Tup splitL) (h : splitOkS s) : r13 (s, ()) = some ((obsOf s, ()), ()) := by
  unfold r13 m13
  obtain ⟨h1, h2, h3, h4, h5, h6⟩ := h
  exact bind_step (copyFrames_ok (spFrames s) h5.2.2) (bind_step (copyInts_ok (spSamples s) h6.2) (bind_step (copyInts_ok (spReads s) h4) rfl))

theorem specObsOf_ok (s : Tup splitL) (h : splitOkS s) : r11 (s, ()) = some ((obsOf s, ()), ()) := by
  unfold r11 m11
  obtain ⟨h1, h2, h3, h4, h5, h6⟩ := h
  refine bind_step (l12List_ok (spFrames s) h5.2.2) ?_
  have a1 : (spSamples s).length ≤ 4398046511104 := h6.2
  rw [leN_t (show 0 + (spSamples s).length ≤ E.most .i by simp only [E.most]; omega), leN_t (show 0 + (spReads s).length ≤ E.most .i by simp only [E.most]; omega)]
  rfl

/-! ### a console in step -/

def picUp (s : Tup splitL) : Bool := eqI (spPic s).1 (spT s) && eqI ((pcRing (spPic s)).2.1.length : Int) 0
def sndUp (s : Tup splitL) : Bool := eqI (spSnd s).1 (spT s) && eqI ((sdRing (spSnd s)).2.1.length : Int) 0

theorem cond_and' {V : Type} (c x : Bool) (v : V) : (bif c then some ((x, ()), v) else some ((false, ()), v)) = some ((c && x, ()), v) := cond_and c x () v

def zPpu : Tup ppuL := (0, (0, (0, (0, (0, (false, ([], ([], ()))))))))
def lock0 : Tup lockL := ([], ([], ([], (0, (0, (0, (0, (0, (false, (false, (false, (false, (0, (0, (0, (0, (0, (false, ([], ([], (0, (0, (0, (0, (0, (false, (false, (false, (0, (false, (0, ([], ([], ([], ()))))))))))))))))))))))))))))))))))
def asLockT (s : Tup splitL) : Tup lockL := (spImg s, (spPads s, ((spMem s).1, ((spMem s).2.1, ((spCpu s).1, ((spCpu s).2.1, ((spCpu s).2.2.1, ((spCpu s).2.2.2.1, ((spCpu s).2.2.2.2.1, ((spCpu s).2.2.2.2.2.1, ((spCpu s).2.2.2.2.2.2.1, ((spCpu s).2.2.2.2.2.2.2.1,
  ((spPic s).1, ((spPic s).2.1, ((spPic s).2.2.1, ((spPic s).2.2.2.1, ((spPic s).2.2.2.2.1, ((spPic s).2.2.2.2.2.1, ((spPic s).2.2.2.2.2.2.1, ((spPic s).2.2.2.2.2.2.2.1,
  ((spSnd s).1, ((spSnd s).2.1, ((spSnd s).2.2.1, ((spSnd s).2.2.2.1, ((spSnd s).2.2.2.2.1, ((spSnd s).2.2.2.2.2.1, ((spSnd s).2.2.2.2.2.2.1, ((spPad s).1, ((spPad s).2.1, (spNmi s, (spSteps s, obsOf s)))))))))))))))))))))))))))))))
def asLock (s : Tup splitL) : Tup lockL := if splitOk s && (picUp s && sndUp s) then asLockT s else lock0

end Go.Proofs.Ytfafepmjpphfeaa.Plain
