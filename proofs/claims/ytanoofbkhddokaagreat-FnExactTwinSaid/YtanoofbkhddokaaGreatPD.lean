/- Plain laws of the printed functions: StepI, StepJ, PlayI, FairI. No condition beyond those that each lemma states. -/
import Derived.Test.YtanoofbkhddokaaGreatPC
set_option linter.unusedVariables false
set_option linter.unusedSimpArgs false
namespace Go.Proofs.YtanoofbkhddokaaGreat.Plain
open Go Go.Tev
/-! ### interrupts, ops -/

theorem readS_rows (s : SplitM) (a : Int) : (readS s a).pic.ppu.table = s.pic.ppu.table ∧ (readS s a).pic.ppu.dots = s.pic.ppu.dots ∧ (readS s a).pic.list = s.pic.list ∧ (readS s a).pic.frames = s.pic.frames ∧ (readS s a).snd.list = s.snd.list ∧ (readS s a).snd.samples = s.snd.samples := by
  obtain ⟨e1, e2⟩ := readP_rows s.pic.ppu (rgT a).2
  unfold readS
  repeat' split
  all_goals first | exact ⟨e1, e2, rfl, rfl, rfl, rfl⟩ | exact ⟨rfl, rfl, rfl, rfl, rfl, rfl⟩
theorem writeS_rows (s : SplitM) (a v : Int) : (writeS s a v).pic.ppu = s.pic.ppu ∧ (writeS s a v).pic.frames = s.pic.frames ∧ (writeS s a v).snd.samples = s.snd.samples ∧ (writeS s a v).snd.apu = s.snd.apu ∧ (writeS s a v).reads = s.reads := by
  unfold writeS
  repeat' split
  all_goals exact ⟨rfl, rfl, rfl, rfl, rfl⟩


/-- rows that no step of the processor turns -/
structure SameRows (s s' : SplitM) : Prop where
  img : s'.img = s.img
  pads : s'.pads = s.pads
  table : s'.pic.ppu.table = s.pic.ppu.table
  dots : s'.pic.ppu.dots = s.pic.ppu.dots
  frames : s'.pic.frames = s.pic.frames
  samples : s'.snd.samples = s.snd.samples
theorem SameRows.rfl' (s : SplitM) : SameRows s s := ⟨rfl, rfl, rfl, rfl, rfl, rfl⟩

theorem opDo_rows (s : SplitM) : SameRows s (opDo s) := by
  unfold opDo
  split
  · obtain ⟨⟨f1, f2, _⟩, _⟩ := readS_f s (adrS s)
    obtain ⟨g1, g2, g3, g4, g5, g6⟩ := readS_rows s (adrS s)
    exact ⟨f1, f2, g1, g2, g4, g6⟩
  split
  · obtain ⟨⟨f1, f2, _⟩, _⟩ := writeS_f s (adrS s) (s.cpu.a % 256)
    obtain ⟨g1, g2, g3, g4, g5⟩ := writeS_rows s (adrS s) (s.cpu.a % 256)
    refine ⟨f1, f2, ?_, ?_, g2, g3⟩
    · show (writeS s (adrS s) (s.cpu.a % 256)).pic.ppu.table = _; rw [g1]
    · show (writeS s (adrS s) (s.cpu.a % 256)).pic.ppu.dots = _; rw [g1]
  · exact ⟨rfl, rfl, rfl, rfl, rfl, rfl⟩
theorem learnS_rows (s : SplitM) : SameRows s (learnS s) := by
  unfold learnS
  split <;> exact ⟨rfl, rfl, rfl, rfl, rfl, rfl⟩
theorem doneS_rows (s : SplitM) : SameRows s (doneS s).1 := by
  unfold doneS
  split
  · exact ⟨rfl, rfl, rfl, rfl, rfl, rfl⟩
  split
  · exact ⟨rfl, rfl, rfl, rfl, rfl, rfl⟩
  · exact opDo_rows s
theorem SameRows.trans {a b c : SplitM} (h : SameRows a b) (k : SameRows b c) : SameRows a c := ⟨k.img.trans h.img, k.pads.trans h.pads, k.table.trans h.table, k.dots.trans h.dots, k.frames.trans h.frames, k.samples.trans h.samples⟩
theorem stepS_rows (s : SplitM) : SameRows s (stepS s) := by
  have h := (learnS_rows s).trans (doneS_rows (learnS s))
  exact ⟨h.img, h.pads, h.table, h.dots, h.frames, h.samples⟩

/-! ### the reference -/

/-! ### copies, the step as it is called -/

/-! ### any console -/

/-! ### levelled -/

/-! ### a row of who is let run -/

/-! ### so many fair steps -/

/-- how many steps there may be -/
def manyN (n : Int) : Nat := (if n < 3000 then n else 3000).toNat
theorem manyN_le (n : Int) : manyN n ≤ 3000 := by unfold manyN; split <;> omega


theorem mnI_eq (n : Int) : mnI n 3000 = if n < 3000 then n else 3000 := by
  unfold mnI
  by_cases h : n < 3000
  · rw [if_neg (by omega), if_pos h]
  · rw [if_neg h]
    split <;> omega

theorem l1Min_many (n : Int) : r89 (n, ((3000 : Int), ())) = some ((mnI n 3000, ()), ()) := by rw [l1Min_ok, mnI_eq]

/-! ### who is able -/

/-! ### what is waited for; what is judged alive -/
end Go.Proofs.YtanoofbkhddokaaGreat.Plain
