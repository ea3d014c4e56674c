/- Plain laws of the printed functions: Setup. No condition beyond those that each lemma states. -/
import Derived.Test.YtmlahgmhbdpkjaaGreatDoorPM
set_option linter.unusedVariables false
set_option linter.unusedSimpArgs false
namespace Go.Proofs.YtmlahgmhbdpkjaaGreatDoor.Plain
open Go Go.Tev
def Zj7 (l:List UInt8) (p:List Int) (cap:Int):Tup ZbF×Int:=
 if (Zan l).2=0 then (if Zcr [(Zan l).1] p cap then ((newS [(Zan l).1] p cap).t,0)else (ZpC,-2))else (ZpC,(Zan l).2)
theorem ZkW {l:List UInt8} (h:(Zan l).2=0):small [(Zan l).1]:=
 Ztz (by simp) fun b hb=>by rw[List.mem_singleton.1 hb,(ZiZ l).2 h];exact Nat.le_refl _
theorem Zm0 (s:ByteArray) (p:List Int) (cap:Int) (hp:p.length≤2000000):r7 (s,(p,(cap,())))=some (((Zj7 s.data.toList p cap).1,((Zj7 s.data.toList p cap).2,())),()):=by
 unfold r7 m7 Zj7
 refine Zaa (Zfq s) ?_
 show (bif neI (Zan s.data.toList).2 0 then _ else _)=_
 by_cases h:(Zan s.data.toList).2=0
 ·rw[ZdJ h,cond_false,if_pos h]
  refine Zaa (ZkD [(Zan s.data.toList).1] p cap (ZkW h) hp) ?_
  unfold ZcV
  cases hk:Zcr [(Zan s.data.toList).1] p cap<;>rfl
 ·rw[Zdh h,cond_true,if_neg h]
  rfl
theorem ZnC (s:ByteArray) (p:List Int) (cap:Int) (hp:p.length≤2000000):r5 (s,(p,(cap,())))=some (((Zj7 s.data.toList p cap).1,((Zj7 s.data.toList p cap).2,())),()):=by
 unfold r5 m5 Zj7
 refine Zaa (Zj9 s) ?_
 show (bif neI (Zan s.data.toList).2 0 then _ else _)=_
 by_cases h:(Zan s.data.toList).2=0
 ·rw[ZdJ h,cond_false,if_pos h]
  refine Zaa (ZkO [(Zan s.data.toList).1] p cap (ZkW h) hp) ?_
  unfold ZcV
  cases hk:Zcr [(Zan s.data.toList).1] p cap<;>rfl
 ·rw[Zdh h,cond_true,if_neg h]
  rfl

end Go.Proofs.YtmlahgmhbdpkjaaGreatDoor.Plain
