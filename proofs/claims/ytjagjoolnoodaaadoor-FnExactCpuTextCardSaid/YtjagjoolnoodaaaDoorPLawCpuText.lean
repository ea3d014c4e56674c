/- A law answers true. No condition. -/
import Derived.Test.YtjagjoolnoodaaaDoorPK
set_option linter.unusedVariables false
set_option linter.unusedSimpArgs false
namespace Go.Proofs.YtjagjoolnoodaaaDoor.Plain
open Go Go.Tev
theorem plain3: ∀y:PTup i3,wfTs i3 y→ ∃b,r3 y=some ((true,()),b):=by
 rintro ⟨c,_⟩ _
 refine ⟨(),?_⟩
 unfold r3 m3
 have ht:r6 (c,())=some ((c,()),()):=rfl
 refine bind_step ht (bind_step (specCpuText_ok c) (bind_step ht (bind_step (implCpuText_ok c) ?_)))
 rw[beq_self_eq_true]
 rfl

end Go.Proofs.YtjagjoolnoodaaaDoor.Plain
