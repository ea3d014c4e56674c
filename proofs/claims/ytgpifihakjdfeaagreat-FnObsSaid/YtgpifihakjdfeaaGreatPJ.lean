/- Plain laws of the printed functions: LawD. No condition beyond those that each lemma states. -/
import Derived.Test.YtgpifihakjdfeaaGreatPI
set_option linter.unusedVariables false
set_option linter.unusedSimpArgs false
namespace Go.Proofs.YtgpifihakjdfeaaGreat.Plain
open Go Go.Tev
theorem small_nil:small ([]:List (List Int)):=⟨by decide,(fun l hl=>by cases hl),by decide⟩
theorem Ans.if_f {R:Type} {b:Bool} {x y:Option R} {P:R→Prop} (hb:b=false) (h:Ans y P):Ans (bif b then x else y) P:=by subst hb;exact h
theorem Ans.if_t {R:Type} {b:Bool} {x y:Option R} {P:R→Prop} (hb:b=true) (h:Ans x P):Ans (bif b then x else y) P:=by subst hb;exact h

end Go.Proofs.YtgpifihakjdfeaaGreat.Plain
