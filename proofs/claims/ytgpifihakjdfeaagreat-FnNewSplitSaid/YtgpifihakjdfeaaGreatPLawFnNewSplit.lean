/- A law answers true. No condition. -/
import Derived.Test.YtgpifihakjdfeaaGreatPJ
set_option linter.unusedVariables false
set_option linter.unusedSimpArgs false
namespace Go.Proofs.YtgpifihakjdfeaaGreat.Plain
open Go Go.Tev
theorem plain9: ∀y:PTup i9,wfTs i9 y→ ∃b,r9 y=some ((true,()),b):=by
 rintro ⟨code,_⟩ ⟨hcode,_⟩
 refine ⟨(),of_ans ?_⟩
 unfold r9 m9
 refine (Ans.of (big_ok code)).bind ?_
 rintro _ rfl
 dsimp only
 refine few_or code () () fun hb=> ?_
 refine (drawSplitNew_ok hb).bind ?_
 rintro _ ⟨f,p,cap,rfl,hf,hp⟩
 refine (Ans.of (implSplitNew_a f p cap hf (by omega))).bind ?_
 rintro _ rfl
 refine (Ans.of (specSplitNew_a f p cap hf (by omega))).bind ?_
 rintro _ rfl
 refine (Ans.of (implLockNew_a f p hf (by omega))).bind ?_
 rintro _ rfl
 refine (Ans.of (specLockNew_a f p hf (by omega))).bind ?_
 rintro _ rfl
 refine Ans.if_f (show (!((splitNewA f p cap).2==(splitNewA f p cap).2))=false by rw[beq_self_eq_true];rfl) (Ans.if_f (show (!((lockNewA f p).2==(lockNewA f p).2))=false by rw[beq_self_eq_true];rfl) ?_)
 unfold splitNewA
 cases hk:newAble f p cap
 ·exact .ret rfl
 obtain ⟨h1,h2,h3⟩:=newAble_iff.1 hk
 have hP:=newS_P h1 h2 h3
 have hs:splitOkS (newS f p cap).t:=hP.s (Nat.zero_le _)
 have el:lockNewA f p=((newL f p).t,true):=by unfold lockNewA;rw[imageOk_iff.2 h1,padsOk_iff.2 h2];rfl
 rw[el]
 refine Ans.if_f rfl (Ans.if_t rfl ?_)
 refine (Ans.of (implAsLock_ok (newS f p cap).t hs)).bind ?_
 rintro _ rfl
 obtain ⟨u1,u2⟩:=newS_up f p cap
 have elev:levelM (newS f p cap)=newS f p cap:=by
  unfold levelM
  rw[show (newS f p cap).T=0 from rfl,u1,u2]
  rfl
 have eo:lockOf (newS f p cap)=newL f p:=by
  unfold lockOf
  rw[show (newS f p cap).T=0 from rfl,u1,u2]
  rfl
 have ea:asLock (newS f p cap).t=(newL f p).t:=by
  have:=asLock_level hP
  rw[elev,eo]at this
  exact this
 rw[ea]
 have hls:lockOkS (newL f p).t:=lock_sizes (newL_P h1 h2) (by show 0≤_;omega)
 refine (Ans.of (implLockSame_ok (newL f p).t (newL f p).t hls)).bind ?_
 rintro _ rfl
 refine Ans.if_t (lockEq_self _) ?_
 refine (Ans.of (implLockOk_ok (newL f p) hls)).bind ?_
 rintro _ rfl
 refine Ans.if_t (lockOkM_iff.2 (newL_P h1 h2)) (Ans.if_t (show eqI (0:Int) 0=true from rfl) ?_)
 refine (Ans.of (implJudgeAll_ok (newS f p cap) hs (Nat.zero_le _))).bind ?_
 rintro _ rfl
 rw[born_all (born_new h1 h2 h3) (by show (0:Int)≤3000;omega)]
 exact .ret rfl

end Go.Proofs.YtgpifihakjdfeaaGreat.Plain
