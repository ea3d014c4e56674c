/- Plain laws of the printed functions: Setup. No condition beyond those that each lemma states. -/
import Derived.Test.YtcbdldlphpjmbaaGreatDoorPN
set_option linter.unusedVariables false
set_option linter.unusedSimpArgs false
namespace Go.Proofs.YtcbdldlphpjmbaaGreatDoor.Plain
open Go Go.Tev
def Kg (l:List UInt8) (p:List Int) (cap:Int):Tup QL×Int:=
 if (QJ l).2=0 then (if Xy [(QJ l).1] p cap then ((V6 [(QJ l).1] p cap).t,0)else (ZhG,-2))else (ZhG,(QJ l).2)
theorem Zg7 {l:List UInt8} (h:(QJ l).2=0):small [(QJ l).1]:=
 Zpt (by simp) fun b hb=>by rw[List.mem_singleton.1 hb,(ZjY l).2 h];exact Nat.le_refl _
theorem Zi2 (s:ByteArray) (p:List Int) (cap:Int) (hp:p.length≤2000000):r11 (s,(p,(cap,())))=some (((Kg s.data.toList p cap).1,((Kg s.data.toList p cap).2,())),()):=by
 unfold r11 m11 Kg;refine Za (ZfF s) ?_;show (bif neI (QJ s.data.toList).2 0 then _ else _)=_
 by_cases h:(QJ s.data.toList).2=0
 ·rw[Q2 h,Zd,Ze h];refine Za (ZgU [(QJ s.data.toList).1] p cap (Zg7 h) hp) ?_;unfold WZ;cases hk:Xy [(QJ s.data.toList).1] p cap<;>rfl
 ·rw[QW h,Zb,Zc h];rfl
theorem ZjG (s:ByteArray) (p:List Int) (cap:Int) (hp:p.length≤2000000):r13 (s,(p,(cap,())))=some (((Kg s.data.toList p cap).1,((Kg s.data.toList p cap).2,())),()):=by
 unfold r13 m13 Kg;refine Za (Zgq s) ?_;show (bif neI (QJ s.data.toList).2 0 then _ else _)=_
 by_cases h:(QJ s.data.toList).2=0
 ·rw[Q2 h,Zd,Ze h];refine Za (Zg2 [(QJ s.data.toList).1] p cap (Zg7 h) hp) ?_;unfold WZ;cases hk:Xy [(QJ s.data.toList).1] p cap<;>rfl
 ·rw[QW h,Zb,Zc h];rfl

end Go.Proofs.YtcbdldlphpjmbaaGreatDoor.Plain
