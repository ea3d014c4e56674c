/- Plain laws of the printed functions: Sim2. No condition beyond those that each lemma states. -/
import Derived.Test.YtgpifihakjdfeaaGreatPE
set_option linter.unusedVariables false
set_option linter.unusedSimpArgs false
namespace Go.Proofs.YtgpifihakjdfeaaGreat.Plain
open Go Go.Tev
theorem cpuEq_self (a:Tup cpuL):cpuEq a a=true:=by simp[cpuEq,eqI_self]
theorem apuEq_self (a:Tup apuL):apuEq a a=true:=by simp[apuEq,eqI_self]
theorem padEq_self (a:Tup padL):padEq a a=true:=by simp[padEq,eqI_self]
theorem memEq_self (a:Tup memL):memEq a a=true:=by simp[memEq,eqI_self]
theorem ppuEq_self (a:Tup ppuL):ppuEq a a=true:=by simp[ppuEq,eqI_self]
theorem lockEq_self (a:Tup lockL):lockEq a a=true:=by
 unfold lockEq
 simp only[cpuEq_self,apuEq_self,padEq_self,memEq_self,ppuEq_self,obsEq_self,eqI_self,beq_self_eq_true,Bool.and_self]

end Go.Proofs.YtgpifihakjdfeaaGreat.Plain
