/- A law answers true. No condition. -/
import Derived.Test.YtgeodknaigdenaaGreatPI
set_option linter.unusedVariables false
set_option linter.unusedSimpArgs false
namespace Go.Proofs.YtgeodknaigdenaaGreat.Plain
open Go Go.Tev
theorem plain5: ∀y:PTup i5,wfTs i5 y→ ∃b,r5 y=some ((true,()),b):=by
 rintro ⟨code,_⟩ ⟨hcode,_⟩
 refine ⟨(),of_ans ?_⟩
 unfold r5 m5
 refine (Ans.of (big_ok code)).bind ?_
 rintro _ rfl
 dsimp only
 refine few_or code () () fun hb=> ?_
 refine (drawLevel_ok hb).bind ?_
 rintro _ ⟨s,rfl,hs,hr⟩
 have hroom:Room s:=roomS hr
 refine (Ans.of (implLevel_a s hs hroom)).bind ?_
 rintro _ rfl
 refine (Ans.of (specLevel_a s hs hroom)).bind ?_
 rintro _ rfl
 have o1:=levelA_S hs hroom
 refine (Ans.of (sameSplit_self _ o1.1)).bind ?_
 rintro _ rfl
 dsimp only
 rw[Bool.not_true,cond_false]
 refine (Ans.of (specSplitOk_ok s.t hs)).bind ?_
 rintro _ rfl
 dsimp only
 cases hk:splitOk s.t
 ·rw[Bool.not_false,cond_true]
  have e:levelA s=s:=by unfold levelA;rw[hk,if_neg (by simp)]
  rw[e]
  refine (Ans.of (sameSplit_self s hs)).bind ?_
  rintro _ rfl
  exact .ret rfl
 ·rw[Bool.not_true,cond_false]
  have h:=splitOk_iff.1 hk
  rw[levelA_P h]at o1⊢
  obtain ⟨⟨c1,c2⟩,c3,c4⟩:=caught_of h
  have l1:(levelM s).pic.list=[]:=c1
  have l2:(levelM s).snd.list=[]:=c3
  show Ans (bif eqI (levelM s).pic.ppu.T s.T then (bif eqI (levelM s).snd.apu.T s.T then (bif eqI (wI (lenI (levelM s).pic.list+lenI (levelM s).snd.list)) 0 then _ else _)else _)else _) _
  rw[eqI_t (show (levelM s).pic.ppu.T=s.T from c2),cond_true,eqI_t (show (levelM s).snd.apu.T=s.T from c4),cond_true,l1,l2,show eqI (wI (lenI ([]:List Rc)+lenI ([]:List Rc))) 0=true by decide,cond_true]
  refine (Ans.of (implLevel_a (levelM s) o1.1 o1.2)).bind ?_
  rintro _ rfl
  rw[levelA_P (levelM_P h).1,levelA_idem h]
  refine (Ans.of (sameSplit_self _ o1.1)).bind ?_
  rintro _ rfl
  dsimp only
  rw[cond_true]
  refine (Ans.of (implSplitOk_ok (levelM s).t o1.1)).bind ?_
  rintro _ rfl
  dsimp only
  rw[splitOk_iff.2 (levelM_P h).1,cond_true]
  exact .ret (show ((cpuEq s.cpu.t s.cpu.t,()),())=((true,()),()) by rw[cpuEq_self])

end Go.Proofs.YtgeodknaigdenaaGreat.Plain
