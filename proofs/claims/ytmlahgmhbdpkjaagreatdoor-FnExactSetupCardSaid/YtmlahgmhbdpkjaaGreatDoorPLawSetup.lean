/- A law answers true. No condition. -/
import Derived.Test.YtmlahgmhbdpkjaaGreatDoorPO
set_option linter.unusedVariables false
set_option linter.unusedSimpArgs false
namespace Go.Proofs.YtmlahgmhbdpkjaaGreatDoor.Plain
open Go Go.Tev
theorem plain3: ∀y:PTup i3,wfTs i3 y→ ∃b,r3 y=some ((true,()),b):=by
 rintro ⟨s,(l:List Int),(cap:Int),_⟩ ⟨ws,wl,_⟩
 refine ⟨(),?_⟩
 unfold r3 m3
 show (bif ltI 1048576 (s.size:Int)then _ else bif ltI 1048576 (l.length:Int)then _ else _)=_
 by_cases hbig:1048576<s.size
 ·rw[Zal (by omega)];rfl
 rw[Zar (by omega),cond_false]
 by_cases hbig:1048576<l.length
 ·rw[Zal (by omega)];rfl
 rw[Zar (by omega),cond_false]
 have hl:l.length≤4398046511104:=by omega
 have o1:=Zn3 s.data.toList l cap
 have kS:=Zj0 s l cap (by omega)
 have kI:=Zjq s l cap (by omega)
 generalize Zfj s.data.toList l cap=g at o1 kS kI
 obtain ⟨g,c⟩:=g
 have o1:Zbt g:=o1
 have hb1:=(spB o1).b6
 refine Zaa (Zfq l hl) (Zaa kS (Zaa (Zfq l hl) (Zaa kI (Zaa (ZdW g o1) ?_))))
 rw[Bool.not_true,cond_false,Zbs,cond_false]
 refine Zaa (Zfq l hl) (Zaa (Zkq l hl) ?_)
 refine Zaa (Zbm l 1 (by omega) (by omega)) ?_
 rw[Zar (show¬(1:Int)+(l.length:Int)<0 by omega),cond_false]
 refine Zaa (ZdW g o1) ?_
 rw[Bool.not_true,cond_false,cond_false]
 refine Zaa (ZkF g o1) (Zaa (Zf3 g o1) ?_)
 rw[Zar (show¬Zc4 g 1<0 by omega),cond_false,Zbs,cond_false]
 refine Zaa (Zfq l hl) (Zaa kI (Zaa (ZdW g o1) ?_))
 rw[Bool.not_true,cond_false,Zbs,cond_false]
 refine Zaa (Zf3 g o1) ?_
 rw[Zar (show¬Zc4 g 1<0 by omega),cond_false,Zbs,cond_false]

end Go.Proofs.YtmlahgmhbdpkjaaGreatDoor.Plain
