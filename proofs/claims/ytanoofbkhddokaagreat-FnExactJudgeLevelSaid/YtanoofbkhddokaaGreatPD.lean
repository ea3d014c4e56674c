/- Plain laws of the printed functions: StepI, StepJ, PlayI, FairI. No condition beyond those that each lemma states. -/
import Derived.Test.YtanoofbkhddokaaGreatPC
set_option linter.unusedVariables false
set_option linter.unusedSimpArgs false
namespace Go.Proofs.YtanoofbkhddokaaGreat.Plain
open Go Go.Tev

/-- so few reads that more can be noted -/
def Room (s : SplitM) : Prop := s.reads.length ≤ 4398046511000

/-! ### interrupts, ops -/

theorem readS_rows (s : SplitM) (a : Int) : (readS s a).pic.ppu.table = s.pic.ppu.table ∧ (readS s a).pic.ppu.dots = s.pic.ppu.dots ∧ (readS s a).pic.list = s.pic.list ∧ (readS s a).pic.frames = s.pic.frames ∧ (readS s a).snd.list = s.snd.list ∧ (readS s a).snd.samples = s.snd.samples := by
  obtain ⟨e1, e2⟩ := readP_rows s.pic.ppu (rgT a).2
  unfold readS
  repeat' split
  all_goals first | exact ⟨e1, e2, rfl, rfl, rfl, rfl⟩ | exact ⟨rfl, rfl, rfl, rfl, rfl, rfl⟩
theorem writeS_rows (s : SplitM) (a v : Int) : (writeS s a v).pic.ppu = s.pic.ppu ∧ (writeS s a v).pic.frames = s.pic.frames ∧ (writeS s a v).snd.samples = s.snd.samples ∧ (writeS s a v).snd.apu = s.snd.apu ∧ (writeS s a v).reads = s.reads := by
  unfold writeS
  repeat' split
  all_goals exact ⟨rfl, rfl, rfl, rfl, rfl⟩


/-- rows that no step of the processor turns -/
structure SameRows (s s' : SplitM) : Prop where
  img : s'.img = s.img
  pads : s'.pads = s.pads
  table : s'.pic.ppu.table = s.pic.ppu.table
  dots : s'.pic.ppu.dots = s.pic.ppu.dots
  frames : s'.pic.frames = s.pic.frames
  samples : s'.snd.samples = s.snd.samples
theorem SameRows.rfl' (s : SplitM) : SameRows s s := ⟨rfl, rfl, rfl, rfl, rfl, rfl⟩

theorem opDo_rows (s : SplitM) : SameRows s (opDo s) := by
  unfold opDo
  split
  · obtain ⟨⟨f1, f2, _⟩, _⟩ := readS_f s (adrS s)
    obtain ⟨g1, g2, g3, g4, g5, g6⟩ := readS_rows s (adrS s)
    exact ⟨f1, f2, g1, g2, g4, g6⟩
  split
  · obtain ⟨⟨f1, f2, _⟩, _⟩ := writeS_f s (adrS s) (s.cpu.a % 256)
    obtain ⟨g1, g2, g3, g4, g5⟩ := writeS_rows s (adrS s) (s.cpu.a % 256)
    refine ⟨f1, f2, ?_, ?_, g2, g3⟩
    · show (writeS s (adrS s) (s.cpu.a % 256)).pic.ppu.table = _; rw [g1]
    · show (writeS s (adrS s) (s.cpu.a % 256)).pic.ppu.dots = _; rw [g1]
  · exact ⟨rfl, rfl, rfl, rfl, rfl, rfl⟩
theorem learnS_rows (s : SplitM) : SameRows s (learnS s) := by
  unfold learnS
  split <;> exact ⟨rfl, rfl, rfl, rfl, rfl, rfl⟩
theorem doneS_rows (s : SplitM) : SameRows s (doneS s).1 := by
  unfold doneS
  split
  · exact ⟨rfl, rfl, rfl, rfl, rfl, rfl⟩
  split
  · exact ⟨rfl, rfl, rfl, rfl, rfl, rfl⟩
  · exact opDo_rows s
theorem SameRows.trans {a b c : SplitM} (h : SameRows a b) (k : SameRows b c) : SameRows a c := ⟨k.img.trans h.img, k.pads.trans h.pads, k.table.trans h.table, k.dots.trans h.dots, k.frames.trans h.frames, k.samples.trans h.samples⟩
theorem stepS_rows (s : SplitM) : SameRows s (stepS s) := by
  have h := (learnS_rows s).trans (doneS_rows (learnS s))
  exact ⟨h.img, h.pads, h.table, h.dots, h.frames, h.samples⟩

/-! ### the reference -/

/-! ### copies, the step as it is called -/

def stepGet (s : SplitM) : SplitM := if waitM s = 0 then stepS s else s
def stepIs (s : SplitM) : Bool := decide (waitM s = 0)

theorem stepGet_rows (s : SplitM) : SameRows s (stepGet s) := by
  unfold stepGet
  split
  · exact stepS_rows s
  · exact .rfl' s


def pickGet (s : SplitM) (who : Int) : SplitM := (pickM s who).getD s
def pickIs (s : SplitM) (who : Int) : Bool := (pickM s who).isSome

theorem pick_0 (s : SplitM) : pickGet s 0 = stepGet s ∧ pickIs s 0 = stepIs s := by
  unfold pickGet pickIs pickM stepGet stepIs
  rw [if_pos rfl]
  by_cases hw : waitM s = 0
  · rw [if_pos hw, if_pos hw, decide_eq_true hw]; exact ⟨rfl, rfl⟩
  · rw [if_neg hw, if_neg hw, decide_eq_false hw]; exact ⟨rfl, rfl⟩
theorem pick_1 (s : SplitM) : pickGet s 1 = { s with pic := (stepPic s.pic s.T).getD s.pic } ∧ pickIs s 1 = (stepPic s.pic s.T).isSome := by
  unfold pickGet pickIs pickM
  rw [if_neg (by decide), if_pos rfl]
  cases stepPic s.pic s.T <;> exact ⟨rfl, rfl⟩
theorem pick_2 (s : SplitM) : pickGet s 2 = { s with snd := (stepSnd s.snd s.T).getD s.snd } ∧ pickIs s 2 = (stepSnd s.snd s.T).isSome := by
  unfold pickGet pickIs pickM
  rw [if_neg (by decide), if_neg (by decide), if_pos rfl]
  cases stepSnd s.snd s.T <;> exact ⟨rfl, rfl⟩
theorem pick_x (s : SplitM) {who : Int} (h0 : who ≠ 0) (h1 : who ≠ 1) (h2 : who ≠ 2) : pickGet s who = s ∧ pickIs s who = false := by
  unfold pickGet pickIs pickM
  rw [if_neg h0, if_neg h1, if_neg h2]
  exact ⟨rfl, rfl⟩

theorem pickGet_P {s : SplitM} (h : SplitP s) (who : Int) : SplitP (pickGet s who) ∧ (pickGet s who).reads.length ≤ s.reads.length + 1 := by
  unfold pickGet
  cases hp : pickM s who with
  | none => exact ⟨h, Nat.le_succ _⟩
  | some v => exact pickM_P h hp
theorem stepGet_P {s : SplitM} (h : SplitP s) : SplitP (stepGet s) ∧ (stepGet s).reads.length ≤ s.reads.length + 1 := by
  rw [← (pick_0 s).1]; exact pickGet_P h 0

/-! ### any console -/

def split0 : Tup splitL := ([], ([], ([], (0, (0, (0, (0, (0, (false, (false, (false, (false, (false, (0, (0, (false, (0, (false, (0, (0, ([], (0, (0, (0, (0, (0, (false, ([], ([], (0, ([], ([], (0, (0, (0, (0, (0, (false, (false, (0, ([], ([], ()))))))))))))))))))))))))))))))))))))))))))
theorem split0_ok : splitOkS split0 := ⟨⟨by decide, (fun l hl => by cases hl), by decide⟩, by decide, by decide, by decide, ⟨⟨by decide, by decide⟩, by decide, ⟨by decide, (fun l hl => by cases hl), by decide⟩⟩, ⟨by decide, by decide⟩⟩

theorem sizes_of {s : SplitM} (h : SplitP s) (hr : Room s) : splitOkS s.t := h.s (by unfold Room at hr; omega)

def cpuStepA (s : SplitM) : Tup splitL × Bool := if splitOk s.t then ((stepGet s).t, stepIs s) else (split0, false)

def pickA (s : SplitM) (who : Int) : Tup splitL × Bool := if splitOk s.t then ((pickGet s who).t, pickIs s who) else (split0, false)

/-! ### levelled -/

theorem level_ok (s : SplitM) (h : SplitP s) : r70 (s.t, ()) = some ((), ((levelM s).t, ())) := by
  unfold r70 m70
  exact bind_step (picCatch_ok s.pic s.T h.pic) (bind_step (sndCatch_ok s.snd s.T h.snd) rfl)

def levelA (s : SplitM) : SplitM := if splitOk s.t then levelM s else s

theorem l15Copy_a (s : SplitM) (hs : splitOkS s.t) (hr : Room s) : r58 (s.t, ()) = some ((s.t, ()), ()) := by
  unfold Room at hr
  obtain ⟨h1, h2, h3, h4, h5, h6⟩ := hs
  have h2 : s.pads.length ≤ 4398046511104 := h2
  have h3 : s.mem.t.1.length ≤ 4398046511104 := h3
  have h62 : s.snd.samples.length ≤ 4398046511104 := h6.2
  have l1 : leN (0 + s.pads.length) (E.most .i) = true := leN_t (by simp only [E.most]; omega)
  have l2 : leN (0 + s.reads.length) (E.most .i) = true := leN_t (by simp only [E.most]; omega)
  have kp : r134 (s.pic.t, ()) = some ((s.pic.t, ()), ()) := by
    unfold r134 m134
    exact bind_step (l8Copy_ok s.pic.ppu.t h5.1) (bind_step (l13Copy_ok (s.pic.cap, (s.pic.list, ())) h5.2.1) (bind_step (l12List_ok s.pic.frames h5.2.2) rfl))
  have ks : r135 (s.snd.t, ()) = some ((s.snd.t, ()), ()) := by
    unfold r135 m135
    refine bind_step (l13Copy_ok (s.snd.cap, (s.snd.list, ())) h6.1) ?_
    show (bif leN (0 + s.snd.samples.length) (E.most .i) then _ else none) = _
    rw [leN_t (by simp only [E.most]; omega)]
    rfl
  unfold r58 m58
  refine bind_step (l12Image_ok s.img h1) ?_
  show (bif leN (0 + s.pads.length) (E.most .i) then _ else none) = _
  rw [l1, cond_true]
  refine bind_step (l6Copy_ok s.mem.t h3) ?_
  show (bif leN (0 + s.reads.length) (E.most .i) then _ else none) = _
  rw [l2, cond_true]
  exact bind_step kp (bind_step ks rfl)

theorem implLevel_a (s : SplitM) (hs : splitOkS s.t) (hr : Room s) : r18 (s.t, ()) = some (((levelA s).t, ()), ()) := by
  unfold r18 m18 levelA
  refine bind_step (copySplit_ok s.t hs) (bind_step (implSplitOk_ok s.t hs) ?_)
  show (bif splitOk s.t then _ else _) = _
  cases ho : splitOk s.t with
  | true => exact bind_step (level_ok s (splitOk_iff.1 ho)) rfl
  | false => rfl

theorem specLevel_a (s : SplitM) (hs : splitOkS s.t) (hr : Room s) : r16 (s.t, ()) = some (((levelA s).t, ()), ()) := by
  unfold r16 m16 levelA
  refine bind_step (l15Copy_a s hs hr) (bind_step (specSplitOk_ok s.t hs) ?_)
  show (bif !splitOk s.t then _ else _) = _
  cases ho : splitOk s.t with
  | true =>
    have h := splitOk_iff.1 ho
    exact bind_step (specPictureCatch_ok s.pic s.T h.pic) (bind_step (specSoundCatch_ok s.snd s.T h.snd) rfl)
  | false => rfl

/-! ### a row of who is let run -/

def playM : List Int → SplitM → SplitM × Int
  | [], s => (s, 0)
  | w :: r, s => ((playM r (pickGet s w)).1, flagN (pickIs s w) + (playM r (pickGet s w)).2)
theorem playM_P : ∀ {l : List Int} {s : SplitM}, SplitP s → SplitP (playM l s).1 ∧ (playM l s).1.reads.length ≤ s.reads.length + l.length ∧ 0 ≤ (playM l s).2 ∧ (playM l s).2 ≤ (l.length : Int)
  | [], s, h => ⟨h, Nat.le_refl _, Int.le_refl 0, Int.le_refl 0⟩
  | w :: r, s, h => by
    obtain ⟨a, b⟩ := pickGet_P h w
    obtain ⟨c, d, e, f⟩ := playM_P (l := r) a
    have g := flagN_range (pickIs s w)
    refine ⟨c, ?_, ?_, ?_⟩
    · show (playM r (pickGet s w)).1.reads.length ≤ s.reads.length + (r.length + 1)
      omega
    · show 0 ≤ flagN (pickIs s w) + (playM r (pickGet s w)).2
      omega
    · show flagN (pickIs s w) + (playM r (pickGet s w)).2 ≤ ((r.length + 1 : Nat) : Int)
      omega

def playA (s : SplitM) (l : List Int) : Tup splitL × Int := if splitOk s.t then (if 3000 < l.length then (s.t, -1) else ((playM l s).1.t, (playM l s).2)) else (split0, -1)

/-! ### so many fair steps -/

def fairM : Nat → SplitM → SplitM × Nat
  | 0, s => (s, 0)
  | n + 1, s => if stepIs (levelM s) then ((fairM n (stepGet (levelM s))).1, (fairM n (stepGet (levelM s))).2 + 1) else (stepGet (levelM s), 0)
theorem fairM_P : ∀ {n : Nat} {s : SplitM}, SplitP s → SplitP (fairM n s).1 ∧ (fairM n s).1.reads.length ≤ s.reads.length + n ∧ (fairM n s).2 ≤ n
  | 0, s, h => ⟨h, Nat.le_refl _, Nat.le_refl _⟩
  | n + 1, s, h => by
    obtain ⟨a, b⟩ := stepGet_P (levelM_P h).1
    have b : (stepGet (levelM s)).reads.length ≤ s.reads.length + 1 := b
    unfold fairM
    split
    · obtain ⟨c, d, e⟩ := fairM_P (n := n) a
      exact ⟨c, by show (fairM n (stepGet (levelM s))).1.reads.length ≤ _; omega, by show (fairM n (stepGet (levelM s))).2 + 1 ≤ n + 1; omega⟩
    · exact ⟨a, by show (stepGet (levelM s)).reads.length ≤ _; omega, Nat.zero_le _⟩
theorem fairM_img : ∀ (n : Nat) (s : SplitM), (fairM n s).1.img = s.img ∧ (fairM n s).1.pads = s.pads
  | 0, s => ⟨rfl, rfl⟩
  | n + 1, s => by
    have hr := stepGet_rows (levelM s)
    unfold fairM
    split
    · obtain ⟨c, d⟩ := fairM_img n (stepGet (levelM s))
      exact ⟨c.trans hr.img, d.trans hr.pads⟩
    · exact ⟨hr.img, hr.pads⟩

/-- how many steps there may be -/
def manyN (n : Int) : Nat := (if n < 3000 then n else 3000).toNat
theorem manyN_le (n : Int) : manyN n ≤ 3000 := by unfold manyN; split <;> omega


theorem mnI_eq (n : Int) : mnI n 3000 = if n < 3000 then n else 3000 := by
  unfold mnI
  by_cases h : n < 3000
  · rw [if_neg (by omega), if_pos h]
  · rw [if_neg h]
    split <;> omega

def fairA (s : SplitM) (n : Int) : Tup splitL × Int := if splitOk s.t then ((fairM (manyN n) s).1.t, ((fairM (manyN n) s).2 : Int)) else (split0, 0)

theorem l1Min_many (n : Int) : r89 (n, ((3000 : Int), ())) = some ((mnI n 3000, ()), ()) := by rw [l1Min_ok, mnI_eq]

/-! ### who is able -/

/-! ### what is waited for; what is judged alive -/

theorem levelA_S {s : SplitM} (hs : splitOkS s.t) (hr : Room s) : splitOkS (levelA s).t ∧ Room (levelA s) := by
  unfold levelA
  cases ho : splitOk s.t with
  | false => exact ⟨hs, hr⟩
  | true => exact ⟨sizes_of (levelM_P (splitOk_iff.1 ho)).1 hr, hr⟩
end Go.Proofs.YtanoofbkhddokaaGreat.Plain
