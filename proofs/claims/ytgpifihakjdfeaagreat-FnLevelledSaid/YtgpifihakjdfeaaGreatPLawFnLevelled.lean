/- A law answers true. No condition. -/
import Derived.Test.YtgpifihakjdfeaaGreatPJ
set_option linter.unusedVariables false
set_option linter.unusedSimpArgs false
namespace Go.Proofs.YtgpifihakjdfeaaGreat.Plain
open Go Go.Tev
theorem plain4: ∀y:PTup i4,wfTs i4 y→ ∃b,r4 y=some ((true,()),b):=by
 rintro ⟨code,_⟩ ⟨hcode,_⟩
 refine ⟨(),of_ans ?_⟩
 unfold r4 m4
 refine (Ans.of (big_ok code)).bind ?_
 rintro _ rfl
 dsimp only
 refine few_or code () () fun hb=> ?_
 refine (drawPlayed_ok hb).bind ?_
 rintro _ ⟨f,p,cap,l,rfl,hf,hp,hc,hl⟩
 have hP:=newS_P hf hp hc
 have hs:splitOkS (newS f p cap).t:=hP.s (Nat.zero_le _)
 have hr0:(newS f p cap).reads.length≤1048576:=Nat.zero_le _
 obtain ⟨e,hu,hst,hr,hi,hpd,hn0,hn1⟩:=played_P hf hp hc hl
 refine (Ans.of (implPlay_a (newS f p cap) l hs hr0 (by omega))).bind ?_
 rintro _ rfl
 refine (Ans.of (specPlay_a (newS f p cap) l hs hr0 (by omega))).bind ?_
 rintro _ rfl
 rw[e]
 dsimp only
 rw[neI_s,cond_false]
 generalize (playM l (newS f p cap)).2=n at hn0 hn1⊢
 have hU:=hu.sim.p
 generalize hq:(playM l (newS f p cap)).1=u at*
 have hus:splitOkS u.t:=hU.s (by omega)
 have hroom:Room u:=by unfold Room;omega
 refine (Ans.of (implLevel_a u hus hroom)).bind ?_
 rintro _ rfl
 rw[levelA_P hU]
 refine (Ans.of (implLockNew_ok f p hf hp)).bind ?_
 rintro _ rfl
 refine (Ans.of (implLockRun_a (newL f p) u.steps (lock_sizes (newL_P hf hp) (by show 0≤_;omega)) (by show 0≤_;omega))).bind ?_
 rintro _ rfl
 have hrun:=played_run hu (by omega)
 rw[hi,hpd]at hrun
 rw[hrun]
 refine Ans.if_t rfl (Ans.if_t (eqI_t rfl) ?_)
 have hls:splitOkS (levelM u).t:=(levelM_P hU).1.s (by show u.reads.length≤_;omega)
 refine (Ans.of (implAsLock_ok (levelM u).t hls)).bind ?_
 rintro _ rfl
 rw[asLock_level hU]
 refine (Ans.of (implLockSame_ok (lockOf u).t (lockOf u).t (lockOf_S hu (by omega)))).bind ?_
 rintro _ rfl
 refine Ans.if_t (lockEq_self _) ?_
 refine (Ans.of (implJudgeLevel_ok u hus hroom)).bind ?_
 rintro _ rfl
 refine Ans.if_t (born_judged hu (by omega)) ?_
 refine (Ans.of (implObsOf_ok (levelM u).t hls)).bind ?_
 rintro _ rfl
 refine (Ans.of (implSame_ok (obsOf (levelM u).t) (lkObs (lockOf u).t) (obs_small hls))).bind ?_
 rintro _ rfl
 exact .ret (show ((obsEq (lkObs (lockOf u).t) (lkObs (lockOf u).t),()),())=((true,()),()) by rw[obsEq_self])

end Go.Proofs.YtgpifihakjdfeaaGreat.Plain
