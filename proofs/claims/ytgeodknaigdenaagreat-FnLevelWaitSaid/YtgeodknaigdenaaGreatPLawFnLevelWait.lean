/- A law answers true. No condition. -/
import Derived.Test.YtgeodknaigdenaaGreatPI
set_option linter.unusedVariables false
set_option linter.unusedSimpArgs false
namespace Go.Proofs.YtgeodknaigdenaaGreat.Plain
open Go Go.Tev
theorem plain6: ∀y:PTup i6,wfTs i6 y→ ∃b,r6 y=some ((true,()),b):=by
 rintro ⟨code,_⟩ ⟨hcode,_⟩
 refine ⟨(),of_ans ?_⟩
 unfold r6 m6
 refine (Ans.of (big_ok code)).bind ?_
 rintro _ rfl
 dsimp only
 refine few_or code () () fun hb=> ?_
 refine (drawWait_ok hb).bind ?_
 rintro _ ⟨s,rfl,hs,hr⟩
 have hroom:Room s:=roomS hr
 refine (Ans.of (implLevel_a s hs hroom)).bind ?_
 rintro _ rfl
 have o1:=levelA_S hs hroom
 refine (Ans.of (implWait_a _ o1.1)).bind ?_
 rintro _ rfl
 refine (Ans.of (specWait_a _ o1.1)).bind ?_
 rintro _ rfl
 dsimp only
 rw[neI_s,cond_false]
 cases hk:splitOk s.t
 ·have e:levelA s=s:=by unfold levelA;rw[hk,if_neg (by simp)]
  rw[e]
  have e2:waitA s=6:=by unfold waitA;rw[hk,if_neg (by simp)]
  rw[e2,eqI_f (by omega),cond_false,eqI_f (by omega),cond_false,eqI_t rfl,cond_true]
  refine (Ans.of (specSplitOk_ok s.t hs)).bind ?_
  rintro _ rfl
  dsimp only
  rw[hk]
  exact .ret rfl
 ·have h:=splitOk_iff.1 hk
  rw[levelA_P h]
  have hl:=(levelM_P h).1
  obtain ⟨u1,u2⟩:=level_up h
  have e:waitA (levelM s)=waitM (levelM s):=by unfold waitA;rw[splitOk_iff.2 hl,if_pos rfl]
  rw[e]
  rcases wait_up hl u1 u2 with e| ⟨e,_⟩
  ·rw[e,eqI_t rfl,cond_true]
   exact .ret rfl
  ·rw[e,eqI_f (by omega),cond_false,eqI_t rfl,cond_true]
   exact .ret rfl

end Go.Proofs.YtgeodknaigdenaaGreat.Plain
