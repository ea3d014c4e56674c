/- A law answers true. No condition. -/
import Derived.Test.YtgeodknaigdenaaGreatPI
set_option linter.unusedVariables false
set_option linter.unusedSimpArgs false
namespace Go.Proofs.YtgeodknaigdenaaGreat.Plain
open Go Go.Tev
def lockStepA (l:LockM):Tup lockL×Bool:=if lockOkM l then ((stepGetL l).t,mayL l)else (lock0,false)
theorem implLockStep_a (l:LockM) (hs:lockOkS l.t) (hr:l.reads.length≤4398046511000):r39 (l.t,())=some (((lockStepA l).1,((lockStepA l).2,())),()):=by
 unfold r39 m39 lockStepA
 refine bind_step (implLockOk_ok l hs) ?_
 show (bif !lockOkM l then _ else _)=_
 cases hk:lockOkM l with
 |false=>rfl
 |true=>
  have h:=lockOkM_iff.1 hk
  rw[Bool.not_true,cond_false,if_pos rfl]
  refine bind_step (copyLock_t l hs) (bind_step (lockStep_ok l h hr) ?_)
  have g:(stepGetL l).img=l.img∧(stepGetL l).pads=l.pads:=by
   unfold stepGetL
   split
   ·exact stepL_img l
   ·exact ⟨rfl,rfl⟩
  obtain ⟨g1,g2⟩:=g
  generalize stepGetL l=d at g1 g2⊢
  obtain ⟨img,pads,mem,cpu,ppu,apu,pad,nmi,st,fr,sa,re⟩:=d
  have g1:img=l.img:=g1
  have g2:pads=l.pads:=g2
  subst g1 g2
  rfl
theorem specLockStep_a (l:LockM) (hs:lockOkS l.t) (hr:l.reads.length≤4398046511000):r40 (l.t,())=some (((lockStepA l).1,((lockStepA l).2,())),()):=by
 unfold lockStepA
 cases hk:lockOkM l with
 |false=>
  unfold r40 m40
  refine bind_step (specLockOk_ok l hs) ?_
  rw[hk]
  rfl
 |true=>rw[if_pos rfl];exact specLockStep_ok l (lockOkM_iff.1 hk) hr
theorem implFetch_a (f:List (List Int)) (x:MemM) (pc:Int) (h:MemP f x) (hp:0≤pc∧pc≤65535):r44 ((f,()),(x.t,(pc,())))=some (((opT f x pc,(argT f x pc,())),()),()):=by
 unfold r44 m44
 refine bind_step (implMemOk_t f x h) ?_
 exact bind_step (fetch_ok f x pc h hp) rfl
theorem plain7: ∀y:PTup i7,wfTs i7 y→ ∃b,r7 y=some ((true,()),b):=by
 rintro ⟨code,_⟩ ⟨hcode,_⟩
 refine ⟨(),of_ans ?_⟩
 unfold r7 m7
 refine (Ans.of (big_ok code)).bind ?_
 rintro _ rfl
 dsimp only
 refine few_or code () () fun hb=> ?_
 refine (drawLockStep_ok hb).bind ?_
 rintro _ ⟨l,rfl,hs,hr⟩
 refine (Ans.of (implLockStep_a l hs (by omega))).bind ?_
 rintro _ rfl
 refine (Ans.of (specLockStep_a l hs (by omega))).bind ?_
 rintro _ rfl
 dsimp only
 rw[beq_self_eq_true,Bool.not_true,cond_false]
 refine (Ans.of (implLockOk_ok l hs)).bind ?_
 rintro _ rfl
 refine (Ans.of (specLockOk_ok l hs)).bind ?_
 rintro _ rfl
 dsimp only
 rw[beq_self_eq_true,Bool.not_true,cond_false]
 cases hk:lockOkM l
 ·have e:lockStepA l=(lock0,false):=by unfold lockStepA;rw[hk,if_neg (by simp)]
  rw[e]
  exact .ret rfl
 have h:=lockOkM_iff.1 hk
 have e:lockStepA l=((stepGetL l).t,mayL l):=by unfold lockStepA;rw[hk,if_pos rfl]
 rw[e]
 dsimp only
 have hc:=cyclesL_b l
 cases hm:mayL l
 ·have hm: ¬l.ppu.T+cyclesL l≤20000:=of_decide_eq_false hm
  rw[cond_false,Bool.not_false,cond_true,stepGetL_f (decide_eq_false hm)]
  have hL:=h.mem.ram.len
  show Ans (bif eqI (lenI l.mem.ram) 0 then _ else _) _
  rw[lenI_def,eqI_f (by omega),cond_false]
  refine (Ans.of (implLockSame_ok l.t l.t hs)).bind ?_
  rintro _ rfl
  rw[lockEq_self]
  show Ans (some ((ltI 19992 l.ppu.T,()),())) _
  rw[ltI_t (by omega)]
  exact .ret rfl
 ·rw[cond_true,stepGetL_t hm]
  obtain ⟨p1,p2,p3,p4⟩:=stepL_P h hm
  have hms:lockOkS (stepL l).t:=p1.s (by omega)
  refine (Ans.of (implLockSame_ok (stepL l).t (stepL l).t hms)).bind ?_
  rintro _ rfl
  dsimp only
  rw[lockEq_self,Bool.not_true,cond_false,cond_false]
  have ht:=h.ppu.t
  have hs0:=h.s0
  have hs1:=h.s1
  have hw:wI ((stepL l).ppu.T-l.ppu.T)=cyclesL l:=by rw[p2,wI_id (by omega) (by omega)];omega
  have hcpu:(stepL l).cpu=(doL l).cpu:=(ticksL_rest (cyclesL l).toNat (doL l)).1
  have x3:askedL l=true→Ans (bif eqI (wI ((stepL l).ppu.T-l.ppu.T)) 7 then (bif (stepL l).cpu.i then ((r41 ((stepL l).t,())).bind fun r7=>some (r7.1,()))else no)else no) fun r=>r=((true,()),()):=fun ha=>by
   have hi:(stepL l).cpu.i=true:=by
    rw[hcpu]
    unfold askedL at ha
    unfold doL
    cases hn:l.nmi with
    |true=>rw[if_pos rfl];rfl
    |false=>rw[hn,Bool.false_or]at ha;rw[if_neg (by simp),if_pos ha];rfl
   rw[hw,hi,eqI_t (by unfold cyclesL;rw[if_pos ha]),cond_true,cond_true]
   refine (Ans.of (implLockOk_ok (stepL l) hms)).bind ?_
   rintro _ rfl
   rw[lockOkM_iff.2 p1]
   exact .ret rfl
  have x1:askedL l=false→Ans ((r44 ((l.img,()),(l.mem.t,(l.cpu.pc,())))).bind fun r7=>(r43 (r7.1.1.1,())).bind fun r8=>bif eqI (wI ((stepL l).ppu.T-l.ppu.T)) r8.1.1 then ((r41 ((stepL l).t,())).bind fun r9=>bif r9.1.1 then some ((eqI (stepL l).steps (wI (l.steps+1)),()),())else no)else no) fun r=>r=((true,()),()):=fun ha=>by
   refine (Ans.of (implFetch_a l.img l.mem l.cpu.pc h.mem h.cpu.pc)).bind ?_
   rintro _ rfl
   refine (Ans.of (implOpCycles_ok _)).bind ?_
   rintro _ rfl
   dsimp only
   rw[hw,eqI_t (by unfold cyclesL;rw[if_neg (by rw[ha];simp)];rfl),cond_true]
   refine (Ans.of (implLockOk_ok (stepL l) hms)).bind ?_
   rintro _ rfl
   dsimp only
   rw[lockOkM_iff.2 p1,cond_true,p3,wI_id (by omega) (by omega),eqI_self]
   exact .ret rfl
  unfold askedL at x1 x3
  show Ans (bif l.nmi then _ else bif l.apu.irq then (bif !l.cpu.i then _ else _)else _) _
  cases hn:l.nmi
  ·rw[hn,Bool.false_or]at x1 x3
   rw[cond_false]
   cases hq:l.apu.irq
   ·rw[hq,Bool.false_and]at x1
    rw[cond_false]
    exact x1 rfl
   ·rw[hq,Bool.true_and]at x1 x3
    rw[cond_true]
    cases hI:l.cpu.i
    ·rw[hI]at x3
     rw[Bool.not_false,cond_true]
     exact x3 rfl
    ·rw[hI]at x1
     rw[Bool.not_true,cond_false]
     exact x1 rfl
  ·rw[hn,Bool.true_or]at x3
   rw[cond_true]
   exact x3 rfl

end Go.Proofs.YtgeodknaigdenaaGreat.Plain
