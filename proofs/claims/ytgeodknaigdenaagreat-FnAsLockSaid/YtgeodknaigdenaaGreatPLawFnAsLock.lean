/- A law answers true. No condition. -/
import Derived.Test.YtgeodknaigdenaaGreatPI
set_option linter.unusedVariables false
set_option linter.unusedSimpArgs false
namespace Go.Proofs.YtgeodknaigdenaaGreat.Plain
open Go Go.Tev
theorem plain4: ∀y:PTup i4,wfTs i4 y→ ∃b,r4 y=some ((true,()),b):=by
 rintro ⟨code,_⟩ ⟨hcode,_⟩
 refine ⟨(),of_ans ?_⟩
 unfold r4 m4
 refine (Ans.of (big_ok code)).bind ?_
 rintro _ rfl
 dsimp only
 refine few_or code () () fun hb=> ?_
 refine (drawAsLock_ok hb).bind ?_
 rintro _ ⟨s,rfl,hs,hr⟩
 have hroom:Room s:=roomS hr
 refine (Ans.of (implAsLock_ok s.t hs)).bind ?_
 rintro _ rfl
 refine (Ans.of (specAsLock_ok s.t hs)).bind ?_
 rintro _ rfl
 refine (Ans.of (implLockSame_ok (asLock s.t) (asLock s.t) (asLock_small hs))).bind ?_
 rintro _ rfl
 dsimp only
 rw[lockEq_self,Bool.not_true,cond_false]
 refine (drawObsOf_ok hb).bind ?_
 rintro _ ⟨u,rfl,hu,_⟩
 refine (Ans.of (implObsOf_ok u.t hu)).bind ?_
 rintro _ rfl
 refine (Ans.of (specObsOf_ok u.t hu)).bind ?_
 rintro _ rfl
 refine (Ans.of (implSame_ok (obsOf u.t) (obsOf u.t) (obs_small hu))).bind ?_
 rintro _ rfl
 dsimp only
 rw[obsEq_self,Bool.not_true,cond_false]
 cases hk:(splitOk s.t&&(picUp s.t&&sndUp s.t))
 ·have e:asLock s.t=lock0:=by unfold asLock;rw[hk,if_neg (by simp)]
  rw[e,show eqI (lenI lock0.2.2.1) 0=true from rfl,cond_true]
  refine (Ans.of (specSplitOk_ok s.t hs)).bind ?_
  rintro _ rfl
  dsimp only
  cases h1:splitOk s.t
  ·exact .ret rfl
  rw[Bool.not_true,cond_false]
  have h:=splitOk_iff.1 h1
  rw[h1,Bool.true_and]at hk
  show Ans (bif neI s.pic.ppu.T s.T then _ else bif neI s.snd.apu.T s.T then _ else some ((ltI 0 (wI (lenI s.pic.list+lenI s.snd.list)),()),())) _
  by_cases h2:s.pic.ppu.T=s.T
  ·rw[neI_f h2,cond_false]
   by_cases h3:s.snd.apu.T=s.T
   ·rw[neI_f h3,cond_false]
    have hk:(picUpM s&&sndUpM s)=false:=hk
    have g1:=h.pic.ring.len
    have g2:=h.pic.ring.c1
    have g3:=h.snd.ring.len
    have g4:=h.snd.ring.c1
    unfold picUpM sndUpM at hk
    rw[eqI_t h2,eqI_t h3,Bool.true_and,Bool.true_and]at hk
    rw[lenI_def,lenI_def,wI_id (by omega) (by omega)]
    rcases Bool.and_eq_false_iff.1 hk with h4|h4
    ·have:(s.pic.list.length:Int)≠0:=fun e=>by rw[eqI_t e]at h4;cases h4
     rw[ltI_t (by omega)]
     exact .ret rfl
    ·have:(s.snd.list.length:Int)≠0:=fun e=>by rw[eqI_t e]at h4;cases h4
     rw[ltI_t (by omega)]
     exact .ret rfl
   ·rw[neI_t h3,cond_true];exact .ret rfl
  ·rw[neI_t h2,cond_true];exact .ret rfl
 ·have e:asLock s.t=asLockT s.t:=by unfold asLock;rw[hk,if_pos rfl]
  obtain ⟨h1,h2⟩:=Bool.and_eq_true_iff.1 hk
  obtain ⟨h2,h3⟩:=Bool.and_eq_true_iff.1 h2
  have h:=splitOk_iff.1 h1
  have h2:picUpM s=true:=h2
  have hT:=(picUp_l h2).2
  have hL:=h.mem.ram.len
  rw[e]
  show Ans (bif eqI (lenI s.mem.ram) 0 then _ else bif cpuEq s.cpu.t s.cpu.t then (bif eqI s.pic.ppu.T s.T then (bif apuEq s.snd.apu.t s.snd.apu.t then (bif eqI s.steps s.steps then ((r27 (s.t,())).bind _)else _)else _)else _)else _) _
  rw[lenI_def,eqI_f (by omega),cond_false,cpuEq_self,cond_true,eqI_t hT,cond_true,apuEq_self,cond_true,eqI_self,cond_true]
  refine (Ans.of (implObsOf_ok s.t hs)).bind ?_
  rintro _ rfl
  refine (Ans.of (implSame_ok (obsOf s.t) (obsOf s.t) (obs_small hs))).bind ?_
  rintro _ rfl
  dsimp only
  rw[obsEq_self]
  exact .ret rfl

end Go.Proofs.YtgeodknaigdenaaGreat.Plain
