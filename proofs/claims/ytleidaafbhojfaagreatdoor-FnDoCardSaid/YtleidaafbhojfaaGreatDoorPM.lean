/- Plain laws of the printed functions: Asm, Rd. No condition beyond those that each lemma states. -/
import Derived.Test.YtleidaafbhojfaaGreatDoorPK
set_option linter.unusedVariables false
set_option linter.unusedSimpArgs false
namespace Go.Proofs.YtleidaafbhojfaaGreatDoor.Plain
open Go Go.Tev
theorem eqW (w:ByteArray) (l:List UInt8):(w.toList==(⟨⟨l⟩⟩:ByteArray).toList)=decide (w.data.toList=l):=ZpP w l _ rfl
theorem ZqW (l:List UInt8) (most:Int) (hm:most<100000):Yo l most=if 0≤Qu l∧Qu l≤most then (Qu l,true)else (0,false):=by
 unfold Yo
 by_cases h:Qu l= -1
 ·rw[h,if_neg (by omega)]
  rw[ZnO]at h
  cases e:Lib.atoiAll l with
  |ok v=>
   dsimp only
   rw[if_neg]
   rintro ⟨h0,h1,h2⟩
   obtain ⟨n,rfl⟩:=Int.eq_ofNat_of_zero_le h0
   rw[Zic]at h2
   exact h n (by omega) h2.symm
  |range=>rfl
  |_=>rfl
 ·obtain ⟨n,h1,h2,h3⟩:=Zjp h
  rw[h3,h2,ZoY h1]
  dsimp only
  rw[Zic]
  by_cases hn:(n:Int)≤most
  ·rw[if_pos ⟨by omega,hn,rfl⟩,if_pos ⟨by omega,hn⟩]
  ·rw[if_neg (by rintro ⟨_,a,_⟩;exact hn a),if_neg (by rintro ⟨_,a⟩;exact hn a)]

end Go.Proofs.YtleidaafbhojfaaGreatDoor.Plain
