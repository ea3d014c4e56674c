/- A law answers true. No condition. -/
import Derived.Test.YtcbdldlphpjmbaaGreatDoorPQ
set_option linter.unusedVariables false
set_option linter.unusedSimpArgs false
namespace Go.Proofs.YtcbdldlphpjmbaaGreatDoor.Plain
open Go Go.Tev
theorem plain3: ∀y:PTup i3,Zsj i3 y→ ∃b,r3 y=some ((true,()),b):=by
 rintro ⟨t,(l:List Int),(cap:Int),lines,_⟩ ⟨wt,wl,_⟩;refine ⟨(),?_⟩;unfold r3 m3;show (bif ltI 1048576 (t.size:Int)then _ else bif ltI 1048576 (l.length:Int)then _ else bif ltI 1048576 (lines.size:Int)then _ else _)=_
 by_cases hbig:1048576<t.size
 ·rw[Zk (by omega)];rfl
 rw[Zx (by omega),Zd];by_cases hbig:1048576<l.length
 ·rw[Zk (by omega)];rfl
 rw[Zx (by omega),Zd];by_cases hbig:1048576<lines.size
 ·rw[Zk (by omega)];rfl
 rw[Zx (by omega),Zd];have hl:l.length≤4398046511104:=by omega
 have hn:lines.data.toList.length≤4000000:=by rw[←Lib.size_eq];omega
 have kS:=Zg1 t l cap lines (by omega) hn;have kI:=ZgS t l cap lines (by omega) hn;generalize UN t.data.toList l cap lines.data.toList=g at kS kI;refine Za (ZgF l hl) (Za kS (Za (ZgF l hl) (Za kI ?_)));dsimp only;rw[beq_self_eq_true,ZK,Zd,Zpe,Zd];refine Za (ZgF l hl) (Za (Zqr l hl) ?_);rfl

end Go.Proofs.YtcbdldlphpjmbaaGreatDoor.Plain
