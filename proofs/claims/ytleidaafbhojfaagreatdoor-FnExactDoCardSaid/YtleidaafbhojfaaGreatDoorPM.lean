/- Plain laws of the printed functions: Asm, Rd. No condition beyond those that each lemma states. -/
import Derived.Test.YtleidaafbhojfaaGreatDoorPK
set_option linter.unusedVariables false
set_option linter.unusedSimpArgs false
namespace Go.Proofs.YtleidaafbhojfaaGreatDoor.Plain
open Go Go.Tev
theorem eqW (w:ByteArray) (l:List UInt8):(w.toList==(⟨⟨l⟩⟩:ByteArray).toList)=decide (w.data.toList=l):=Zwr w l _ rfl
theorem ZxH (l:List UInt8) (most:Int) (hm:most<100000):numR l most=if 0≤numA l∧numA l≤most then (numA l,true)else (0,false):=by
 unfold numR
 by_cases h:numA l= -1
 ·rw[h,if_neg (by omega)]
  rw[ZuD]at h
  cases e:Lib.atoiAll l with
  |ok v=>
   dsimp only
   rw[if_neg]
   rintro ⟨h0,h1,h2⟩
   obtain ⟨n,rfl⟩:=Int.eq_ofNat_of_zero_le h0
   rw[Zol]at h2
   exact h n (by omega) h2.symm
  |range=>rfl
  |_=>rfl
 ·obtain ⟨n,h1,h2,h3⟩:=ZpL h
  rw[h3,h2,ZvI h1]
  dsimp only
  rw[Zol]
  by_cases hn:(n:Int)≤most
  ·rw[if_pos ⟨by omega,hn,rfl⟩,if_pos ⟨by omega,hn⟩]
  ·rw[if_neg (by rintro ⟨_,a,_⟩;exact hn a),if_neg (by rintro ⟨_,a⟩;exact hn a)]

end Go.Proofs.YtleidaafbhojfaaGreatDoor.Plain
