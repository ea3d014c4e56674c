/- A law answers true. No condition. -/
import Derived.Test.YtgeodknaigdenaaGreatPI
set_option linter.unusedVariables false
set_option linter.unusedSimpArgs false
namespace Go.Proofs.YtgeodknaigdenaaGreat.Plain
open Go Go.Tev
theorem plain3: ∀y:PTup i3,wfTs i3 y→ ∃b,r3 y=some ((true,()),b):=by
 rintro ⟨s,_⟩ ⟨ws,_⟩
 refine ⟨(),?_⟩
 unfold r3 m3
 obtain ⟨m,e1,h1,k1⟩:=szSplit_ok s 1048576 (by omega) (by omega) ws
 refine bind_step e1 ?_
 by_cases hm:m<0
 ·rw[ltI_t hm];rfl
 rw[ltI_f hm,cond_false]
 obtain ⟨os,hr⟩:=k1 (by omega)
 have hr:(spM s).reads.length≤1048576:=hr
 have hs:splitOkS (spM s).t:=os
 have hroom:=room_of hr
 have hb0:=enSplit_b os
 refine bind_step (toSplit_ok s os) (bind_step (specJudgeCpu_ok (spM s) hs) (bind_step (toSplit_ok s os) (bind_step (implJudgeCpu_ok (spM s) hs) ?_)))
 generalize judgeCpuA (spM s)=b
 cases b<;>exact bind_step (toSplit_ok s os) (bind_step (eqSplit_self s os) rfl)

end Go.Proofs.YtgeodknaigdenaaGreat.Plain
