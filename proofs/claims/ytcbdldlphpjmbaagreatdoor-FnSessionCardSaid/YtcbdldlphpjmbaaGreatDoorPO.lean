/- Plain laws of the printed functions: Setup. No condition beyond those that each lemma states. -/
import Derived.Test.YtcbdldlphpjmbaaGreatDoorPN
set_option linter.unusedVariables false
set_option linter.unusedSimpArgs false
namespace Go.Proofs.YtcbdldlphpjmbaaGreatDoor.Plain
open Go Go.Tev
def XK (l:List UInt8) (p:List Int) (cap:Int):Tup QM×Int:=
 if (QH l).2=0 then (if XD [(QH l).1] p cap then ((Vy [(QH l).1] p cap).t,0)else (ZhP,-2))else (ZhP,(QH l).2)
theorem Zhe {l:List UInt8} (h:(QH l).2=0):small [(QH l).1]:=
 ZpJ (by simp) fun b hb=>by rw[List.mem_singleton.1 hb,(Zkb l).2 h];exact Nat.le_refl _
theorem ZeL (s:ByteArray) (p:List Int) (cap:Int) (hp:p.length≤2000000):r11 (s,(p,(cap,())))=some (((XK s.data.toList p cap).1,((XK s.data.toList p cap).2,())),()):=by
 unfold r11 m11 XK;refine Za (ZfL s) ?_;show (bif neI (QH s.data.toList).2 0 then _ else _)=_
 by_cases h:(QH s.data.toList).2=0
 ·rw[Ja h,Zd,Ze h];refine Za (Zg0 [(QH s.data.toList).1] p cap (Zhe h) hp) ?_;unfold W8;cases hk:XD [(QH s.data.toList).1] p cap<;>rfl
 ·rw[QS h,Zb,Zc h];rfl
theorem ZjS (s:ByteArray) (p:List Int) (cap:Int) (hp:p.length≤2000000):r13 (s,(p,(cap,())))=some (((XK s.data.toList p cap).1,((XK s.data.toList p cap).2,())),()):=by
 unfold r13 m13 XK;refine Za (Zgw s) ?_;show (bif neI (QH s.data.toList).2 0 then _ else _)=_
 by_cases h:(QH s.data.toList).2=0
 ·rw[Ja h,Zd,Ze h];refine Za (Zg9 [(QH s.data.toList).1] p cap (Zhe h) hp) ?_;unfold W8;cases hk:XD [(QH s.data.toList).1] p cap<;>rfl
 ·rw[QS h,Zb,Zc h];rfl

end Go.Proofs.YtcbdldlphpjmbaaGreatDoor.Plain
