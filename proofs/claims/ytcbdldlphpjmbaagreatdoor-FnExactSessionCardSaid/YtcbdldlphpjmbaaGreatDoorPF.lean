/- Plain laws of the printed functions: LawFns. No condition beyond those that each lemma states. -/
import Derived.Test.YtcbdldlphpjmbaaGreatDoorPE
set_option linter.unusedVariables false
set_option linter.unusedSimpArgs false
namespace Go.Proofs.YtcbdldlphpjmbaaGreatDoor.Plain
open Go Go.Tev
theorem Zpe (a:Int):neI a a=false:=Q2 rfl
theorem Zqr (a:List Int) (h:a.length≤4398046511104):r8 (a,(a,()))=some ((true,()),()):=by
 have:=Znb a a h;rwa [ZC rfl]at this

end Go.Proofs.YtcbdldlphpjmbaaGreatDoor.Plain
