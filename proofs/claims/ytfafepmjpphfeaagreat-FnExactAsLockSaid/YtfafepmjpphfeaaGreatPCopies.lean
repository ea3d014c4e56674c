/- Copies are what they are copies of; what is seen of a console; a console in step of one whose parts go apart. No condition beyond those that each lemma states. -/
import Derived.Test.YtfafepmjpphfeaaGreatPOk3
set_option linter.unusedVariables false
set_option linter.unusedSimpArgs false
namespace Go.Proofs.YtfafepmjpphfeaaGreat.Plain
open Go Go.Tev

theorem copyInts_ok (l : List Int) (h : l.length ≤ 4398046511104) : r85 (l, ()) = some ((l, ()), ()) := by
  unfold r85 m85
  rw [leN_t (by simp only [E.most]; omega)]
  rfl

theorem copyImage_ok (f : List (List Int)) (h : small f) : r84 ((f, ()), ()) = some (((f, ()), ()), ()) := by
  have h0 := h.1
  have key := app_list_loop (fun k i out => n84_0 r85 k (f, ((f.length : Int), ())) ((out, ()), ()) ((i : Int), ())) f (fun out => (Sum.inl ((f.length : Int), ()), ((out, ()), ())))
    (fun k i out hi ho => by
      simp only [n84_0, w84_0, lenI_def]
      rw [ltI_t (by omega), leI_t (by omega), rdE_nat .n f i hi, wI_succ (by omega), copyInts_ok _ (h.2.1 _ (List.getElem_mem hi))]
      simp only [cond_true, Option.bind_some]
      rw [leN_t (by simp only [E.most, List.length_singleton]; omega)]
      rfl)
    (fun k out ho => by
      simp only [n84_0, w84_0, lenI_def]
      rw [ltI_f (by omega)]; rfl) fuel 0 [] (by omega) rfl (by have := fuel_big; omega)
  unfold r84 m84 L84_0
  simp only [lenI_def]
  simp only [Int.natCast_zero, List.drop_zero, List.nil_append] at key
  rw [key]
  rfl

theorem l12Image_ok (f : List (List Int)) (h : small f) : r21 ((f, ()), ()) = some (((f, ()), ()), ()) := by
  have h0 := h.1
  have key := app_list_loop (fun k i out => n21_0 k () ((f, ()), ((out, ()), ())) ((i : Int), ())) f (fun out => (Sum.inl ((f.length : Int), ()), ((f, ()), ((out, ()), ()))))
    (fun k i out hi ho => by
      have hl := h.2.1 _ (List.getElem_mem hi)
      simp only [n21_0, w21_0, lenI_def]
      rw [ltI_t (by omega), leI_t (by omega), rdE_nat .n f i hi, wI_succ (by omega)]
      rw [leN_t (by simp only [E.most]; omega), leN_t (by simp only [E.most, List.length_singleton]; omega)]
      rfl)
    (fun k out ho => by
      simp only [n21_0, w21_0, lenI_def]
      rw [ltI_f (by omega)]; rfl) fuel 0 [] (by omega) rfl (by have := fuel_big; omega)
  unfold r21 m21 L21_0
  simp only [Int.natCast_zero, List.drop_zero, List.nil_append] at key
  rw [key]
  rfl

theorem copyFrames_ok (f : List (List Int)) (h : small f) : r89 (f, ()) = some ((f, ()), ()) := by
  have h0 := h.1
  have key := app_list_loop (fun k i out => n89_0 r85 k (f, ((f.length : Int), ())) () (out, ((i : Int), ()))) f (fun out => (Sum.inl (out, ((f.length : Int), ())), ()))
    (fun k i out hi ho => by
      simp only [n89_0, w89_0, lenI_def]
      rw [ltI_t (by omega), leI_t (by omega), rdE_nat .n f i hi, wI_succ (by omega), copyInts_ok _ (h.2.1 _ (List.getElem_mem hi))]
      simp only [cond_true, Option.bind_some]
      rw [leN_t (by simp only [E.most, List.length_singleton]; omega)]
      rfl)
    (fun k out ho => by
      simp only [n89_0, w89_0, lenI_def]
      rw [ltI_f (by omega)]; rfl) fuel 0 [] (by omega) rfl (by have := fuel_big; omega)
  unfold r89 m89 L89_0
  simp only [lenI_def]
  simp only [Int.natCast_zero, List.drop_zero, List.nil_append] at key
  rw [key]
  rfl

theorem l12List_ok (f : List (List Int)) (h : small f) : r70 (f, ()) = some ((f, ()), ()) := by
  have h0 := h.1
  have key := app_list_loop (fun k i out => n70_0 k (f, ()) () (out, ((i : Int), ()))) f (fun out => (Sum.inl (out, ((f.length : Int), ())), ()))
    (fun k i out hi ho => by
      have hl := h.2.1 _ (List.getElem_mem hi)
      simp only [n70_0, w70_0, lenI_def]
      rw [ltI_t (by omega), leI_t (by omega), rdE_nat .n f i hi, wI_succ (by omega)]
      rw [leN_t (by simp only [E.most]; omega), leN_t (by simp only [E.most, List.length_singleton]; omega)]
      rfl)
    (fun k out ho => by
      simp only [n70_0, w70_0, lenI_def]
      rw [ltI_f (by omega)]; rfl) fuel 0 [] (by omega) rfl (by have := fuel_big; omega)
  unfold r70 m70 L70_0
  simp only [Int.natCast_zero, List.drop_zero, List.nil_append] at key
  rw [key]
  rfl

theorem copyMem_ok (x : Tup memL) (h : x.1.length ≤ 4398046511104) : r86 (x, ()) = some ((x, ()), ()) := by
  unfold r86 m86
  exact bind_step (copyInts_ok x.1 h) rfl

theorem l6Copy_ok (x : Tup memL) (h : x.1.length ≤ 4398046511104) : r22 (x, ()) = some ((x, ()), ()) := by
  unfold r22 m22
  simp only
  rw [leN_t (by simp only [E.most]; omega)]
  rfl

theorem copyPpu_ok (p : Tup ppuL) (h : ppuOkS p) : r109 (p, ()) = some ((p, ()), ()) := by
  unfold r109 m109
  exact bind_step (copyInts_ok p.2.2.2.2.2.2.1 h.1) (bind_step (copyInts_ok p.2.2.2.2.2.2.2.1 h.2) rfl)

theorem l8Copy_ok (p : Tup ppuL) (h : ppuOkS p) : r23 (p, ()) = some ((p, ()), ()) := by
  unfold r23 m23
  obtain ⟨h1, h2⟩ := h
  simp only
  rw [leN_t (by simp only [E.most]; omega), leN_t (by simp only [E.most]; omega)]
  rfl

theorem copyRing_ok (r : Tup ringL) (h : r.2.1.length ≤ 4398046511104) : r110 (r, ()) = some ((r, ()), ()) := by
  unfold r110 m110
  simp only
  rw [leN_t (by simp only [E.most]; omega)]
  rfl

theorem copyPicture_ok (w : Tup picL) (h : picOkS w) : r87 (w, ()) = some ((w, ()), ()) := by
  unfold r87 m87
  exact bind_step (copyPpu_ok (pcPpu w) h.1) (bind_step (copyRing_ok (pcRing w) h.2.1) (bind_step (copyFrames_ok w.2.2.2.2.2.2.2.2.2.2.1 h.2.2) rfl))

theorem copySound_ok (w : Tup sndL) (h : sndOkS w) : r88 (w, ()) = some ((w, ()), ()) := by
  unfold r88 m88
  exact bind_step (copyRing_ok (sdRing w) h.1) (bind_step (copyInts_ok w.2.2.2.2.2.2.2.2.2.1 h.2) rfl)

theorem copySplit_ok (s : Tup splitL) (h : splitOkS s) : r35 (s, ()) = some ((s, ()), ()) := by
  unfold r35 m35
  obtain ⟨h1, h2, h3, h4, h5, h6⟩ := h
  exact bind_step (copyImage_ok (spImg s) h1) (bind_step (copyInts_ok (spPads s) h2) (bind_step (copyMem_ok (spMem s) h3) (bind_step (copyInts_ok (spReads s) h4) (bind_step (copyPicture_ok (spPic s) h5) (bind_step (copySound_ok (spSnd s) h6) rfl)))))

/-! ### what is seen -/

abbrev spFrames (s : Tup splitL) : List (List Int) := (spPic s).2.2.2.2.2.2.2.2.2.2.1
abbrev spSamples (s : Tup splitL) : List Int := (spSnd s).2.2.2.2.2.2.2.2.2.1
def obsOf (s : Tup splitL) : Tup obsL := (spFrames s, (spSamples s, (spReads s, ())))

theorem implObsOf_ok (s : Tup splitL) (h : splitOkS s) : r36 (s, ()) = some ((obsOf s, ()), ()) := by
  unfold r36 m36
  obtain ⟨h1, h2, h3, h4, h5, h6⟩ := h
  exact bind_step (copyFrames_ok (spFrames s) h5.2.2) (bind_step (copyInts_ok (spSamples s) h6.2) (bind_step (copyInts_ok (spReads s) h4) rfl))

theorem specObsOf_ok (s : Tup splitL) (h : splitOkS s) : r24 (s, ()) = some ((obsOf s, ()), ()) := by
  unfold r24 m24
  obtain ⟨h1, h2, h3, h4, h5, h6⟩ := h
  refine bind_step (l12List_ok (spFrames s) h5.2.2) ?_
  have a1 : (spSamples s).length ≤ 4398046511104 := h6.2
  rw [leN_t (show 0 + (spSamples s).length ≤ E.most .i by simp only [E.most]; omega), leN_t (show 0 + (spReads s).length ≤ E.most .i by simp only [E.most]; omega)]
  rfl

/-! ### a console in step -/

def picUp (s : Tup splitL) : Bool := eqI (spPic s).1 (spT s) && eqI ((pcRing (spPic s)).2.1.length : Int) 0
def sndUp (s : Tup splitL) : Bool := eqI (spSnd s).1 (spT s) && eqI ((sdRing (spSnd s)).2.1.length : Int) 0

theorem cond_and' {V : Type} (c x : Bool) (v : V) : (bif c then some ((x, ()), v) else some ((false, ()), v)) = some ((c && x, ()), v) := cond_and c x () v

theorem pictureCaught_ok (s : Tup splitL) : r33 (s, ()) = some ((picUp s, ()), ()) := by
  unfold r33 m33
  simp only [lenI_def, cond_and]
  rfl

theorem soundCaught_ok (s : Tup splitL) : r34 (s, ()) = some ((sndUp s, ()), ()) := by
  unfold r34 m34
  simp only [lenI_def, cond_and]
  rfl

theorem l15PictureUp_ok (s : Tup splitL) : r19 (s, ()) = some ((picUp s, ()), ()) := by
  unfold r19 m19
  simp only [lenI_def, cond_and]
  rfl

theorem l15SoundUp_ok (s : Tup splitL) : r20 (s, ()) = some ((sndUp s, ()), ()) := by
  unfold r20 m20
  simp only [lenI_def, cond_and]
  rfl

def zPpu : Tup ppuL := (0, (0, (0, (0, (0, (false, ([], ([], ()))))))))
def lock0 : Tup lockL := ([], ([], ([], (0, (0, (0, (0, (0, (false, (false, (false, (false, (0, (0, (0, (0, (0, (false, ([], ([], (0, (0, (0, (0, (0, (false, (false, (false, (0, (false, (0, ([], ([], ([], ()))))))))))))))))))))))))))))))))))
def asLockT (s : Tup splitL) : Tup lockL := (spImg s, (spPads s, ((spMem s).1, ((spMem s).2.1, ((spCpu s).1, ((spCpu s).2.1, ((spCpu s).2.2.1, ((spCpu s).2.2.2.1, ((spCpu s).2.2.2.2.1, ((spCpu s).2.2.2.2.2.1, ((spCpu s).2.2.2.2.2.2.1, ((spCpu s).2.2.2.2.2.2.2.1,
  ((spPic s).1, ((spPic s).2.1, ((spPic s).2.2.1, ((spPic s).2.2.2.1, ((spPic s).2.2.2.2.1, ((spPic s).2.2.2.2.2.1, ((spPic s).2.2.2.2.2.2.1, ((spPic s).2.2.2.2.2.2.2.1,
  ((spSnd s).1, ((spSnd s).2.1, ((spSnd s).2.2.1, ((spSnd s).2.2.2.1, ((spSnd s).2.2.2.2.1, ((spSnd s).2.2.2.2.2.1, ((spSnd s).2.2.2.2.2.2.1, ((spPad s).1, ((spPad s).2.1, (spNmi s, (spSteps s, obsOf s)))))))))))))))))))))))))))))))
def asLock (s : Tup splitL) : Tup lockL := if splitOk s && (picUp s && sndUp s) then asLockT s else lock0

theorem implAsLock_ok (s : Tup splitL) (h : splitOkS s) : r7 (s, ()) = some ((asLock s, ()), ()) := by
  unfold r7 m7 asLock
  refine bind_step (implSplitOk_ok s h) ?_
  cases splitOk s with
  | false => rfl
  | true =>
    refine bind_step (pictureCaught_ok s) ?_
    cases picUp s with
    | false => rfl
    | true =>
      refine bind_step (soundCaught_ok s) ?_
      cases sndUp s with
      | false => rfl
      | true => exact bind_step (copySplit_ok s h) (bind_step (implObsOf_ok s h) rfl)

theorem specAsLock_ok (s : Tup splitL) (h : splitOkS s) : r5 (s, ()) = some ((asLock s, ()), ()) := by
  unfold r5 m5 asLock
  have h' := h
  obtain ⟨h1, h2, h3, h4, h5, h6⟩ := h
  refine bind_step (specSplitOk_ok s h') ?_
  cases splitOk s with
  | false => rfl
  | true =>
    refine bind_step (l15PictureUp_ok s) ?_
    cases picUp s with
    | false => rfl
    | true =>
      refine bind_step (l15SoundUp_ok s) ?_
      cases sndUp s with
      | false => rfl
      | true =>
        refine bind_step (l12Image_ok (spImg s) h1) ?_
        rw [leN_t (show 0 + (spPads s).length ≤ E.most .i by simp only [E.most]; omega)]
        exact bind_step (l6Copy_ok (spMem s) h3) (bind_step (l8Copy_ok (pcPpu (spPic s)) h5.1) (bind_step (specObsOf_ok s h') rfl))

end Go.Proofs.YtfafepmjpphfeaaGreat.Plain
