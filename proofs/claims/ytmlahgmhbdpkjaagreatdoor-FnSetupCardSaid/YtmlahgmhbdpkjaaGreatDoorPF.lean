/- Plain laws of the printed functions: LawFns. No condition beyond those that each lemma states. -/
import Derived.Test.YtmlahgmhbdpkjaaGreatDoorPE
set_option linter.unusedVariables false
set_option linter.unusedSimpArgs false
namespace Go.Proofs.YtmlahgmhbdpkjaaGreatDoor.Plain
open Go Go.Tev
theorem Zth (a:Int):neI a a=false:=ZdJ rfl

end Go.Proofs.YtmlahgmhbdpkjaaGreatDoor.Plain
