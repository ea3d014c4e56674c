/- A law answers true. No condition. -/
import Derived.Test.YtgpifihakjdfeaaGreatPJ
set_option linter.unusedVariables false
set_option linter.unusedSimpArgs false
namespace Go.Proofs.YtgpifihakjdfeaaGreat.Plain
open Go Go.Tev
theorem plain8: ∀y:PTup i8,wfTs i8 y→ ∃b,r8 y=some ((true,()),b):=by
 rintro ⟨code,_⟩ ⟨hcode,_⟩
 refine ⟨(),of_ans ?_⟩
 unfold r8 m8
 refine (Ans.of (big_ok code)).bind ?_
 rintro _ rfl
 dsimp only
 refine few_or code () () fun hb=> ?_
 refine (drawPlayed_ok hb).bind ?_
 rintro _ ⟨f,p,cap,l,rfl,hf,hp,hc,hl⟩
 have hP:=newS_P hf hp hc
 have hs:splitOkS (newS f p cap).t:=hP.s (Nat.zero_le _)
 have hr0:(newS f p cap).reads.length≤1048576:=Nat.zero_le _
 obtain ⟨e,hu,hst,hr,hi,hpd,hn0,hn1⟩:=played_P hf hp hc hl
 refine (Ans.of (implPlay_a (newS f p cap) l hs hr0 (by omega))).bind ?_
 rintro _ rfl
 refine (Ans.of (specPlay_a (newS f p cap) l hs hr0 (by omega))).bind ?_
 rintro _ rfl
 rw[e]
 dsimp only
 rw[neI_s,cond_false]
 generalize (playM l (newS f p cap)).2=n at hn0 hn1⊢
 have hU:=hu.sim.p
 generalize hq:(playM l (newS f p cap)).1=u at*
 have hus:splitOkS u.t:=hU.s (by omega)
 have hroom:Room u:=by unfold Room;omega
 obtain ⟨k,hk,_⟩:=hu.run
 have hk3:k≤810:=by omega
 obtain ⟨b1,b2,b3⟩:=born_fair (n:=k) (born_new hf hp hc) (by show 7*((0:Int)+k)≤20000;omega)
 obtain ⟨g1,g2,g3⟩:=fairM_P (n:=k) hP
 obtain ⟨j1,j2⟩:=fairM_img k (newS f p cap)
 refine (Ans.of (implFair_a (newS f p cap) u.steps hs hr0)).bind ?_
 rintro _ rfl
 rw[hk,fairA_n hP (by omega),b2]
 have b3:(fairM k (newS f p cap)).1.steps=0+(k:Int):=b3
 have g2:(fairM k (newS f p cap)).1.reads.length≤0+k:=g2
 generalize (fairM k (newS f p cap)).1=v at*
 have hV:=b1.sim.p
 have hvs:splitOkS v.t:=hV.s (by omega)
 have hvroom:Room v:=by unfold Room;omega
 refine Ans.if_t (show eqI (k:Int) u.steps=true from eqI_t (by omega)) ?_
 refine (Ans.of (implLevel_a u hus hroom)).bind ?_
 rintro _ rfl
 rw[levelA_P hU]
 refine (Ans.of (implAsLock_ok (levelM u).t ((levelM_P hU).1.s (by show u.reads.length≤_;omega)))).bind ?_
 rintro _ rfl
 rw[asLock_level hU]
 refine (Ans.of (implLevel_a v hvs hvroom)).bind ?_
 rintro _ rfl
 rw[levelA_P hV]
 refine (Ans.of (implAsLock_ok (levelM v).t ((levelM_P hV).1.s (by show v.reads.length≤_;omega)))).bind ?_
 rintro _ rfl
 rw[asLock_level hV,←born_same hu b1 (by rw[hi,j1];rfl) (by rw[hpd,j2];rfl) (by omega)]
 refine (Ans.of (implLockSame_ok (lockOf u).t (lockOf u).t (lockOf_S hu (by omega)))).bind ?_
 rintro _ rfl
 refine Ans.if_t (lockEq_self _) ?_
 refine (Ans.of (implJudgeAll_ok u hus hroom)).bind ?_
 rintro _ rfl
 refine Ans.if_t (born_all hu (by omega)) ?_
 refine (Ans.of (implJudgeAll_ok v hvs hvroom)).bind ?_
 rintro _ rfl
 rw[born_all b1 (by omega)]
 exact .ret rfl

end Go.Proofs.YtgpifihakjdfeaaGreat.Plain
