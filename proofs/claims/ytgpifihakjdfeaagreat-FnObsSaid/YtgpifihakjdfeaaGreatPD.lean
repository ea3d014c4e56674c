/- Plain laws of the printed functions: StepJ, PlayI, FairI. No condition beyond those that each lemma states. -/
import Derived.Test.YtgpifihakjdfeaaGreatPC
set_option linter.unusedVariables false
set_option linter.unusedSimpArgs false
namespace Go.Proofs.YtgpifihakjdfeaaGreat.Plain
open Go Go.Tev
structure SameRows (s s':SplitM):Prop where
 img:s'.img=s.img
 pads:s'.pads=s.pads
 table:s'.pic.ppu.table=s.pic.ppu.table
 dots:s'.pic.ppu.dots=s.pic.ppu.dots
 frames:s'.pic.frames=s.pic.frames
 samples:s'.snd.samples=s.snd.samples
theorem SameRows.trans {a b c:SplitM} (h:SameRows a b) (k:SameRows b c):SameRows a c:=⟨k.img.trans h.img,k.pads.trans h.pads,k.table.trans h.table,k.dots.trans h.dots,k.frames.trans h.frames,k.samples.trans h.samples⟩
def manyN (n:Int):Nat:=(if n<3000 then n else 3000).toNat
theorem manyN_le (n:Int):manyN n≤3000:=by unfold manyN;split<;>omega
theorem mnI_eq (n:Int):mnI n 3000=if n<3000 then n else 3000:=by
 unfold mnI
 by_cases h:n<3000
 ·rw[if_neg (by omega),if_pos h]
 ·rw[if_neg h]
  split<;>omega
theorem l1Min_many (n:Int):r158 (n,((3000:Int),()))=some ((mnI n 3000,()),()):=by rw[l1Min_ok,mnI_eq]

end Go.Proofs.YtgpifihakjdfeaaGreat.Plain
