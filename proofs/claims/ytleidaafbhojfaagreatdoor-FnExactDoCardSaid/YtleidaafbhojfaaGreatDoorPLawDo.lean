/- A law answers true. No condition. -/
import Derived.Test.YtleidaafbhojfaaGreatDoorPN
set_option linter.unusedVariables false
set_option linter.unusedSimpArgs false
namespace Go.Proofs.YtleidaafbhojfaaGreatDoor.Plain
open Go Go.Tev
theorem plain3: ∀y:PTup i3,wfTs i3 y→ ∃b,r3 y=some ((true,()),b):=by
 rintro ⟨s,(line:ByteArray),_⟩ ⟨ws,_⟩
 refine ⟨(),?_⟩
 unfold r3 m3
 show (bif ltI 1048576 (line.size:Int)then _ else _)=_
 by_cases hbig:(1048576:Int)< (line.size:Int)
 ·rw[Zaj hbig];rfl
 rw[Zam hbig,cond_false]
 have hl:line.data.toList.length≤4000000:=by rw[←Lib.size_eq];omega
 obtain ⟨m,e1,h1,k1⟩:=ZtD s 1048576 (by omega) (by omega) ws
 refine Zaa e1 ?_
 by_cases hm:m<0
 ·rw[Zaj hm];rfl
 rw[Zam hm,cond_false]
 obtain ⟨os,hr⟩:=k1 (by omega)
 have hr:(spM s).reads.length≤1048576:=hr
 have hs:Zal (spM s).t:=os
 have hb0:=Zo9 os
 have o1:=ZyB hs hr line.data.toList
 have kS:=Zvd (spM s) line hl hs hr
 have kI:=Zuo (spM s) line hl hs hr
 generalize doA (spM s) line.data.toList=g at o1 kS kI
 obtain ⟨g,c⟩:=g
 have o1:Zal g:=o1
 have hb1:=(spB o1).b6
 refine Zaa (ZhC s os) (Zaa kS (Zaa (ZhC s os) (Zaa kI (Zaa (ZeF g o1) ?_))))
 rw[Bool.not_true,cond_false]
 show (bif !((bz c).toList==(bz c).toList)then _ else _)=_
 rw[beq_self_eq_true,Bool.not_true,cond_false]
 refine Zaa (ZhC s os) (Zaa (ZeF s os) ?_)
 rw[Bool.not_true,cond_false]
 refine Zaa (ZlY s os) ?_
 rw[Zam (show¬Zei s 1<0 by omega),cond_false]
 refine Zaa (ZeF g o1) ?_
 rw[Bool.not_true,cond_false,cond_false]
 refine Zaa (ZlY g o1) (Zaa (Zkb g o1) ?_)
 rw[Zam (show¬Zei g 1<0 by omega),cond_false,Zc1,cond_false]
 refine Zaa (ZhC s os) (Zaa kI (Zaa (ZeF g o1) ?_))
 rw[Bool.not_true,cond_false]
 show (bif !((bz c).toList==(bz c).toList)then _ else _)=_
 rw[beq_self_eq_true,Bool.not_true,cond_false]
 refine Zaa (Zkb g o1) ?_
 rw[Zam (show¬Zei g 1<0 by omega),cond_false,Zc1,cond_false]

end Go.Proofs.YtleidaafbhojfaaGreatDoor.Plain
