/- Plain laws of the printed functions: Draw. No condition beyond those that each lemma states. -/
import Derived.Test.YtleidaafbhojfaaGreatDoorPF
set_option linter.unusedVariables false
set_option linter.unusedSimpArgs false
namespace Go.Proofs.YtleidaafbhojfaaGreatDoor.Plain
open Go Go.Tev
def Ans {R:Type} (x:Option R) (P:R→Prop):Prop:= ∃r,x=some r∧P r
theorem Ans.bind {A B:Type} {x:Option A} {P:A→Prop} {f:A→Option B} {Q:B→Prop} (h:Ans x P) (k: ∀a,P a→Ans (f a) Q):Ans (x.bind f) Q:=by
 obtain ⟨a,rfl,ha⟩:=h
 exact k a ha
theorem Zyw {a n:Int} (ha:0≤a) (hn:0<n):0≤Int.tmod a n∧Int.tmod a n<n:=by
 rw[ZaJ ha]
 exact ⟨Int.emod_nonneg _ (by omega),Int.emod_lt_of_pos _ hn⟩

end Go.Proofs.YtleidaafbhojfaaGreatDoor.Plain
