/- Plain laws of the printed functions: Setup. No condition beyond those that each lemma states. -/
import Derived.Test.YtmlahgmhbdpkjaaGreatDoorPM
set_option linter.unusedVariables false
set_option linter.unusedSimpArgs false
namespace Go.Proofs.YtmlahgmhbdpkjaaGreatDoor.Plain
open Go Go.Tev
def Zfj (l:List UInt8) (p:List Int) (cap:Int):Tup Zbb×Int:=
 if (Zao l).2=0 then (if ZbR [(Zao l).1] p cap then ((newS [(Zao l).1] p cap).t,0)else (Zlq,-2))else (Zlq,(Zao l).2)
theorem Zh3 {l:List UInt8} (h:(Zao l).2=0):small [(Zao l).1]:=
 Zn4 (by simp) fun b hb=>by rw[List.mem_singleton.1 hb,(Zkh l).2 h];exact Nat.le_refl _
theorem Zn3 (l:List UInt8) (p:List Int) (cap:Int):Zbt (Zfj l p cap).1:=by
 unfold Zfj
 by_cases h:(Zao l).2=0
 ·rw[if_pos h]
  cases hk:ZbR [(Zao l).1] p cap
  ·exact Zj2
  ·obtain ⟨h1,h2,h3⟩:=ZcG.1 hk
   exact (Zok h1 h2 h3).s (Nat.zero_le _)
 ·rw[if_neg h]
  exact Zj2
theorem Zjq (s:ByteArray) (p:List Int) (cap:Int) (hp:p.length≤2000000):r7 (s,(p,(cap,())))=some (((Zfj s.data.toList p cap).1,((Zfj s.data.toList p cap).2,())),()):=by
 unfold r7 m7 Zfj
 refine Zaa (Zg0 s) ?_
 show (bif neI (Zao s.data.toList).2 0 then _ else _)=_
 by_cases h:(Zao s.data.toList).2=0
 ·rw[Zdl h,cond_false,if_pos h]
  refine Zaa (ZhO [(Zao s.data.toList).1] p cap (Zh3 h) hp) ?_
  unfold Zcf
  cases hk:ZbR [(Zao s.data.toList).1] p cap<;>rfl
 ·rw[ZeO h,cond_true,if_neg h]
  rfl
theorem Zj0 (s:ByteArray) (p:List Int) (cap:Int) (hp:p.length≤2000000):r5 (s,(p,(cap,())))=some (((Zfj s.data.toList p cap).1,((Zfj s.data.toList p cap).2,())),()):=by
 unfold r5 m5 Zfj
 refine Zaa (Zhs s) ?_
 show (bif neI (Zao s.data.toList).2 0 then _ else _)=_
 by_cases h:(Zao s.data.toList).2=0
 ·rw[Zdl h,cond_false,if_pos h]
  refine Zaa (ZhY [(Zao s.data.toList).1] p cap (Zh3 h) hp) ?_
  unfold Zcf
  cases hk:ZbR [(Zao s.data.toList).1] p cap<;>rfl
 ·rw[ZeO h,cond_true,if_neg h]
  rfl

end Go.Proofs.YtmlahgmhbdpkjaaGreatDoor.Plain
