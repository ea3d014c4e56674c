/- Plain laws of the printed functions: Sim, Sim2. No condition beyond those that each lemma states. -/
import Derived.Test.YtgeodknaigdenaaGreatPE
set_option linter.unusedVariables false
set_option linter.unusedSimpArgs false
namespace Go.Proofs.YtgeodknaigdenaaGreat.Plain
open Go Go.Tev
theorem tickP_ctrl (p:PpuM):(tickP p).ctrl=p.ctrl:=by
 unfold tickP
 repeat' split
 all_goals rfl
theorem ticksL_rest: ∀(n:Nat) (l:LockM),(ticksL n l).cpu=l.cpu∧(ticksL n l).pad=l.pad∧(ticksL n l).ppu.ctrl=l.ppu.ctrl∧(ticksL n l).steps=l.steps
 |0,_=>⟨rfl,rfl,rfl,rfl⟩
 |n+1,l=>by
  obtain ⟨a,b,c,d⟩:=ticksL_rest n (tickL l)
  exact ⟨a,b,c.trans (tickP_ctrl _),d⟩
theorem cpuEq_self (a:Tup cpuL):cpuEq a a=true:=by simp[cpuEq,eqI_self]
theorem apuEq_self (a:Tup apuL):apuEq a a=true:=by simp[apuEq,eqI_self]
theorem padEq_self (a:Tup padL):padEq a a=true:=by simp[padEq,eqI_self]
theorem memEq_self (a:Tup memL):memEq a a=true:=by simp[memEq,eqI_self]
theorem ppuEq_self (a:Tup ppuL):ppuEq a a=true:=by simp[ppuEq,eqI_self]
theorem lockEq_self (a:Tup lockL):lockEq a a=true:=by
 unfold lockEq
 simp only[cpuEq_self,apuEq_self,padEq_self,memEq_self,ppuEq_self,obsEq_self,eqI_self,beq_self_eq_true,Bool.and_self]

end Go.Proofs.YtgeodknaigdenaaGreat.Plain
