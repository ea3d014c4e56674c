/- Plain laws of the printed functions: StepJ, PlayI. No condition beyond those that each lemma states. -/
import Derived.Test.YtmlahgmhbdpkjaaGreatDoorPC
set_option linter.unusedVariables false
set_option linter.unusedSimpArgs false
namespace Go.Proofs.YtmlahgmhbdpkjaaGreatDoor.Plain
open Go Go.Tev
structure Zgq (s s':ZdP):Prop where
 img:s'.img=s.img
 pads:s'.pads=s.pads
 table:s'.pic.ppu.table=s.pic.ppu.table
 dots:s'.pic.ppu.dots=s.pic.ppu.dots
 frames:s'.pic.frames=s.pic.frames
 samples:s'.snd.samples=s.snd.samples
theorem Zgq.trans {a b c:ZdP} (h:Zgq a b) (k:Zgq b c):Zgq a c:=⟨k.img.trans h.img,k.pads.trans h.pads,k.table.trans h.table,k.dots.trans h.dots,k.frames.trans h.frames,k.samples.trans h.samples⟩
def Zlq:Tup Zbb:=([],([],([],(0,(0,(0,(0,(0,(false,(false,(false,(false,(false,(0,(0,(false,(0,(false,(0,(0,([],(0,(0,(0,(0,(0,(false,([],([],(0,([],([],(0,(0,(0,(0,(0,(false,(false,(0,([],([],()))))))))))))))))))))))))))))))))))))))))))
theorem Zj2:Zbt Zlq:=⟨⟨by decide,(fun l hl=>by cases hl),by decide⟩,by decide,by decide,by decide,⟨⟨by decide,by decide⟩,by decide,⟨by decide,(fun l hl=>by cases hl),by decide⟩⟩,⟨by decide,by decide⟩⟩

end Go.Proofs.YtmlahgmhbdpkjaaGreatDoor.Plain
