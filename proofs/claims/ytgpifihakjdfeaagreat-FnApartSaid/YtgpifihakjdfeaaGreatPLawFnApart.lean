/- A law answers true. No condition. -/
import Derived.Test.YtgpifihakjdfeaaGreatPJ
set_option linter.unusedVariables false
set_option linter.unusedSimpArgs false
namespace Go.Proofs.YtgpifihakjdfeaaGreat.Plain
open Go Go.Tev
theorem plain3: ∀y:PTup i3,wfTs i3 y→ ∃b,r3 y=some ((true,()),b):=by
 rintro ⟨code,_⟩ ⟨hcode,_⟩
 refine ⟨(),of_ans ?_⟩
 unfold r3 m3
 refine (Ans.of (big_ok code)).bind ?_
 rintro _ rfl
 dsimp only
 refine few_or code () () fun hb=> ?_
 refine (drawPlayed_ok hb).bind ?_
 rintro _ ⟨f,p,cap,l,rfl,hf,hp,hc,hl⟩
 have hP:=newS_P hf hp hc
 have hs:splitOkS (newS f p cap).t:=hP.s (Nat.zero_le _)
 have hr0:(newS f p cap).reads.length≤1048576:=Nat.zero_le _
 obtain ⟨e,hu,hst,hr,hi,hpd,hn0,hn1⟩:=played_P hf hp hc hl
 refine (Ans.of (implPlay_a (newS f p cap) l hs hr0 (by omega))).bind ?_
 rintro _ rfl
 refine (Ans.of (specPlay_a (newS f p cap) l hs hr0 (by omega))).bind ?_
 rintro _ rfl
 rw[e]
 dsimp only
 rw[neI_s,cond_false]
 generalize (playM l (newS f p cap)).2=n at hn0 hn1⊢
 have hU:=hu.sim.p
 generalize hq:(playM l (newS f p cap)).1=u at*
 have hus:splitOkS u.t:=hU.s (by omega)
 have hroom:Room u:=by unfold Room;omega
 refine (Ans.of (implSplitOk_ok u.t hus)).bind ?_
 rintro _ rfl
 dsimp only
 rw[splitOk_iff.2 hU,Bool.not_true,cond_false]
 refine (Ans.of (implTwin_ok u hus)).bind ?_
 rintro _ rfl
 rw[(born_twin hu (by omega)).1]
 refine Ans.if_f (show (!(cpuEq u.cpu.t u.cpu.t))=false by rw[cpuEq_self];rfl) ?_
 refine (Ans.of (sameInts_self u.mem.ram (by have:=hU.mem.ram.len;omega))).bind ?_
 rintro _ rfl
 refine Ans.if_f rfl (Ans.if_f (show neI u.mem.bank u.mem.bank=false from neI_s _) (Ans.if_f (show (!(padEq u.pad.t u.pad.t))=false by rw[padEq_self];rfl) ?_))
 refine (Ans.of (sameInts_self u.reads (by omega))).bind ?_
 rintro _ rfl
 refine Ans.if_f rfl (Ans.if_f (show neI u.T (lockOf u).ppu.T=false by rw[(lockOf_T hU).1];exact neI_s _) (Ans.if_f (show neI u.steps u.steps=false from neI_s _) ?_))
 refine (Ans.of (implObsOf_ok u.t hus)).bind ?_
 rintro _ rfl
 refine (Ans.of (implBegins_ok (obsOf u.t) (lkObs (lockOf u).t) (obs_small hus))).bind ?_
 rintro _ rfl
 refine Ans.if_t (seen_of hU) ?_
 refine (Ans.of (implJudgeCpu_ok u hus)).bind ?_
 rintro _ rfl
 refine Ans.if_t (born_cpu hu (by omega)) ?_
 refine (Ans.of (implJudgeSeen_ok u hus)).bind ?_
 rintro _ rfl
 rw[born_seen hu (by omega)]
 exact .ret rfl

end Go.Proofs.YtgpifihakjdfeaaGreat.Plain
