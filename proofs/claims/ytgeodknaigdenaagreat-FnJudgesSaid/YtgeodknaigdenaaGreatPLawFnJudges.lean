/- A law answers true. No condition. -/
import Derived.Test.YtgeodknaigdenaaGreatPI
set_option linter.unusedVariables false
set_option linter.unusedSimpArgs false
namespace Go.Proofs.YtgeodknaigdenaaGreat.Plain
open Go Go.Tev
theorem plain14: ∀y:PTup i14,wfTs i14 y→ ∃b,r14 y=some ((true,()),b):=by
 rintro ⟨code,_⟩ ⟨hcode,_⟩
 refine ⟨(),of_ans ?_⟩
 unfold r14 m14
 refine (Ans.of (big_ok code)).bind ?_
 rintro _ rfl
 dsimp only
 refine few_or code () () fun hb=> ?_
 refine (drawJudgeAll_ok hb).bind ?_
 rintro _ ⟨s,rfl,hs,hr⟩
 have hroom:Room s:=roomS hr
 refine (Ans.of (implJudgeCpu_ok s hs)).bind ?_
 rintro _ rfl
 refine (Ans.of (implJudgeSeen_ok s hs)).bind ?_
 rintro _ rfl
 refine (Ans.of (implJudgeLevel_ok s hs hroom)).bind ?_
 rintro _ rfl
 refine (Ans.of (implJudgeAlive_a s hs hroom)).bind ?_
 rintro _ rfl
 refine (Ans.of (specJudgeCpu_ok s hs)).bind ?_
 rintro _ rfl
 dsimp only
 rw[beq_self_eq_true,Bool.not_true,cond_false]
 refine (Ans.of (specJudgeSeen_ok s hs)).bind ?_
 rintro _ rfl
 dsimp only
 rw[beq_self_eq_true,Bool.not_true,cond_false]
 refine (Ans.of (specJudgeLevel_ok s hs hroom)).bind ?_
 rintro _ rfl
 dsimp only
 rw[beq_self_eq_true,Bool.not_true,cond_false]
 refine (Ans.of (specJudgeAlive_a s hs hroom)).bind ?_
 rintro _ rfl
 dsimp only
 rw[beq_self_eq_true,Bool.not_true,cond_false]
 refine (drawTwin_ok hb).bind ?_
 rintro _ ⟨u,rfl,hu,_⟩
 refine (Ans.of (implTwin_ok u hu)).bind ?_
 rintro _ rfl
 refine (Ans.of (specTwin_ok u hu)).bind ?_
 rintro _ rfl
 refine (Ans.of (implLockSame_ok (twinA u) (twinA u) (twinA_S u))).bind ?_
 rintro _ rfl
 dsimp only
 rw[lockEq_self,Bool.not_true,cond_false]
 refine (Ans.of (implJudgeAll_ok s hs hroom)).bind ?_
 rintro _ rfl
 have hn:splitOk s.t=false→judgeCpuA s=false∧seenA s=false∧judgeLevelA s=false∧aliveA s=false:=fun hk=>by
  unfold judgeCpuA seenA judgeLevelA aliveA fewM
  rw[hk]
  exact ⟨rfl,rfl,rfl,rfl⟩
 have fin:Ans ((r29 (s.t,())).bind fun r15=>bif r15.1.1 then some ((true,()),())else bif !judgeCpuA s then (bif !seenA s then (bif !judgeLevelA s then some ((!aliveA s,()),())else no)else no)else no) fun r=>r=((true,()),()):=by
  refine (Ans.of (specSplitOk_ok s.t hs)).bind ?_
  rintro _ rfl
  dsimp only
  cases hk:splitOk s.t
  ·obtain ⟨a,b,c,d⟩:=hn hk
   rw[a,b,c,d]
   exact .ret rfl
  ·rw[cond_true];exact .ret rfl
 unfold judgeAllA
 generalize hA:judgeCpuA s=a at fin⊢
 generalize hB:seenA s=b at fin⊢
 generalize hC:judgeLevelA s=c at fin⊢
 generalize hD:aliveA s=d at fin⊢
 cases a<;>cases b<;>cases c<;>cases d<;>exact fin

end Go.Proofs.YtgeodknaigdenaaGreat.Plain
