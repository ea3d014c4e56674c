/- A law answers true. No condition. -/
import Derived.Test.YtgeodknaigdenaaGreatPI
set_option linter.unusedVariables false
set_option linter.unusedSimpArgs false
namespace Go.Proofs.YtgeodknaigdenaaGreat.Plain
open Go Go.Tev
theorem plain11: ∀y:PTup i11,wfTs i11 y→ ∃b,r11 y=some ((true,()),b):=by
 rintro ⟨code,_⟩ ⟨hcode,_⟩
 refine ⟨(),of_ans ?_⟩
 unfold r11 m11
 refine (Ans.of (big_ok code)).bind ?_
 rintro _ rfl
 dsimp only
 refine few_or code () () fun hb=> ?_
 refine (drawPick_ok hb).bind ?_
 rintro _ ⟨s,who,rfl,hs,hr⟩
 have hroom:Room s:=roomS hr
 refine (Ans.of (implPick_a s who hs hroom)).bind ?_
 rintro _ rfl
 refine (Ans.of (specPick_a s who hs hroom)).bind ?_
 rintro _ rfl
 dsimp only
 rw[beq_self_eq_true,Bool.not_true,cond_false]
 refine (Ans.of (implSplitOk_ok s.t hs)).bind ?_
 rintro _ rfl
 refine (Ans.of (specSplitOk_ok s.t hs)).bind ?_
 rintro _ rfl
 dsimp only
 rw[beq_self_eq_true,Bool.not_true,cond_false]
 refine (Ans.of (specSplitOk_ok s.t hs)).bind ?_
 rintro _ rfl
 dsimp only
 cases hk:splitOk s.t
 ·have e:pickA s who=(split0,false):=by unfold pickA;rw[hk,if_neg (by simp)]
  rw[e,Bool.not_false,cond_true,cond_true]
  exact .ret rfl
 ·have h:=splitOk_iff.1 hk
  have e:pickA s who=((pickGet s who).t,pickIs s who):=by unfold pickA;rw[hk,if_pos rfl]
  rw[e]
  dsimp only
  rw[Bool.not_true,cond_false]
  cases hi:pickIs s who
  ·rw[Bool.not_false,cond_true]
   have e2:pickGet s who=s:=by
    unfold pickIs at hi
    unfold pickGet
    cases hp:pickM s who with
    |none=>rfl
    |some v=>rw[hp]at hi;cases hi
   rw[e2]
   refine (Ans.of (sameSplit_self s hs)).bind ?_
   rintro _ rfl
   exact .ret rfl
  ·rw[Bool.not_true,cond_false]
   have hP:=pickGet_P h who
   have hS:splitOkS (pickGet s who).t:=hP.1.s (by omega)
   by_cases h0:who=0
   ·subst h0
    rw[eqI_t rfl,cond_true]
    have hw:waitM s=0:=by
     rw[(pick_0 s).2]at hi
     exact of_decide_eq_true hi
    have e2:pickGet s 0=stepS s:=by rw[(pick_0 s).1];unfold stepGet;rw[if_pos hw]
    rw[e2]at hS hP⊢
    obtain ⟨f1,f2,f3,f4,f5,f6⟩:=stepS_P h hw
    have hst:=h.steps
    have ht:=h.t
    show Ans (bif eqI (stepS s).steps (wI (s.steps+1))then (bif ltI s.T (stepS s).T then _ else _)else _) _
    rw[wI_id (x:=s.steps+1) (by omega) (by omega),eqI_t f2,cond_true,ltI_t f4,cond_true]
    refine (Ans.of (implSplitOk_ok _ hS)).bind ?_
    rintro _ rfl
    rw[splitOk_iff.2 f1]
    exact .ret rfl
   ·rw[eqI_f h0,cond_false]
    have key:(pickGet s who).cpu=s.cpu∧(pickGet s who).T=s.T∧(pickGet s who).mem=s.mem:=by
     by_cases h1:who=1
     ·subst h1;rw[(pick_1 s).1];exact ⟨rfl,rfl,rfl⟩
     by_cases h2:who=2
     ·subst h2;rw[(pick_2 s).1];exact ⟨rfl,rfl,rfl⟩
     ·rw[(pick_x s h0 h1 h2).1];exact ⟨rfl,rfl,rfl⟩
    obtain ⟨k1,k2,k3⟩:=key
    show Ans (bif cpuEq (pickGet s who).cpu.t s.cpu.t then (bif eqI (pickGet s who).T s.T then ((r55 ((pickGet s who).mem.ram,(s.mem.ram,()))).bind _)else _)else _) _
    rw[k1,k2,k3,cpuEq_self,cond_true,eqI_t rfl,cond_true]
    refine (Ans.of (sameInts_self s.mem.ram ((szS_iff s).1 hs).2.2.1)).bind ?_
    rintro _ rfl
    dsimp only
    rw[cond_true]
    refine (Ans.of (implSplitOk_ok _ hS)).bind ?_
    rintro _ rfl
    dsimp only
    rw[splitOk_iff.2 hP.1,cond_true]
    refine (Ans.of (implAble_a s hs hroom)).bind ?_
    rintro _ rfl
    have:=ableA_len s
    refine (Ans.of (withinL_ok (ableA s) who (by omega))).bind ?_
    rintro _ rfl
    dsimp only
    rw[able_mem,e]
    show Ans (some ((pickIs s who,()),())) _
    rw[hi]
    exact .ret rfl

end Go.Proofs.YtgeodknaigdenaaGreat.Plain
