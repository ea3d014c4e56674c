/- Plain laws of the printed functions: StepJ. No condition beyond those that each lemma states. -/
import Derived.Test.YtjagjoolnoodaaaDoorPC
set_option linter.unusedVariables false
set_option linter.unusedSimpArgs false
namespace Go.Proofs.YtjagjoolnoodaaaDoor.Plain
open Go Go.Tev
structure SameRows (s s':SplitM):Prop where
 img:s'.img=s.img
 pads:s'.pads=s.pads
 table:s'.pic.ppu.table=s.pic.ppu.table
 dots:s'.pic.ppu.dots=s.pic.ppu.dots
 frames:s'.pic.frames=s.pic.frames
 samples:s'.snd.samples=s.snd.samples
theorem SameRows.trans {a b c:SplitM} (h:SameRows a b) (k:SameRows b c):SameRows a c:=⟨k.img.trans h.img,k.pads.trans h.pads,k.table.trans h.table,k.dots.trans h.dots,k.frames.trans h.frames,k.samples.trans h.samples⟩

end Go.Proofs.YtjagjoolnoodaaaDoor.Plain
