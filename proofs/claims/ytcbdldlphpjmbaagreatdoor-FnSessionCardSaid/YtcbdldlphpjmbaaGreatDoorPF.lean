/- Plain laws of the printed functions: LawFns. No condition beyond those that each lemma states. -/
import Derived.Test.YtcbdldlphpjmbaaGreatDoorPE
set_option linter.unusedVariables false
set_option linter.unusedSimpArgs false
namespace Go.Proofs.YtcbdldlphpjmbaaGreatDoor.Plain
open Go Go.Tev
theorem Zpu (a:Int):neI a a=false:=Ja rfl

end Go.Proofs.YtcbdldlphpjmbaaGreatDoor.Plain
