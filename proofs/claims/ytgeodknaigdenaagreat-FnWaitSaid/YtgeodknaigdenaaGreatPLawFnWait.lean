/- A law answers true. No condition. -/
import Derived.Test.YtgeodknaigdenaaGreatPI
set_option linter.unusedVariables false
set_option linter.unusedSimpArgs false
namespace Go.Proofs.YtgeodknaigdenaaGreat.Plain
open Go Go.Tev
theorem wait_facts {s:SplitM} (h:SplitP s):waitM s=0∨(waitM s=1∧picUpM s=false)∨(waitM s=2∧sndUpM s=false)∨(waitM s=3∧(s.pic.list.length:Int)=s.pic.cap)∨(waitM s=4∧(s.snd.list.length:Int)=s.snd.cap)∨(waitM s=5∧19992<s.T):=by
 have hov: ∀n:Int,n≤7→overN s n=0∨(overN s n=5∧19992<s.T):=fun n hn=>by
  rcases overN_cases s n with ⟨a,b⟩| ⟨a,b⟩
  ·exact .inl a
  ·exact .inr ⟨a,by omega⟩
 have r1:=h.pic.ring.len
 have r2:=h.snd.ring.len
 have hc:=opCycN_b (opS s)
 have fin: ∀n:Int,n≤7→overN s n=0∨(overN s n=1∧picUpM s=false)∨(overN s n=2∧sndUpM s=false)∨(overN s n=3∧(s.pic.list.length:Int)=s.pic.cap)∨(overN s n=4∧(s.snd.list.length:Int)=s.snd.cap)∨(overN s n=5∧19992<s.T):=fun n hn=>by
  rcases hov n hn with a|a
  ·exact .inl a
  ·exact .inr (.inr (.inr (.inr (.inr a))))
 unfold waitM
 split
 ·exact fin 7 (by omega)
 split
 ·rename_i hq
  refine .inr (.inr (.inl ⟨rfl,?_⟩))
  cases hu:sndUpM s with
  |true=>rw[hu]at hq;simp at hq
  |false=>rfl
 split
 ·exact fin 7 (by omega)
 split
 ·rename_i hq
  exact .inr (.inl ⟨rfl,hq.2.2⟩)
 split
 ·rename_i hq
  exact .inr (.inr (.inl ⟨rfl,hq.2.2⟩))
 split
 ·rename_i hq
  exact .inr (.inr (.inr (.inl ⟨rfl,by omega⟩)))
 split
 ·rename_i hq
  exact .inr (.inr (.inr (.inr (.inl ⟨rfl,by omega⟩))))
 ·exact fin _ (by omega)
theorem plain9: ∀y:PTup i9,wfTs i9 y→ ∃b,r9 y=some ((true,()),b):=by
 rintro ⟨code,_⟩ ⟨hcode,_⟩
 refine ⟨(),of_ans ?_⟩
 unfold r9 m9
 refine (Ans.of (big_ok code)).bind ?_
 rintro _ rfl
 dsimp only
 refine few_or code () () fun hb=> ?_
 refine (drawCpuStep_ok hb).bind ?_
 rintro _ ⟨s,rfl,hs,hr⟩
 have hroom:Room s:=roomS hr
 refine (Ans.of (implWait_a s hs)).bind ?_
 rintro _ rfl
 refine (Ans.of (implCpuStep_a s hs hroom)).bind ?_
 rintro _ rfl
 refine (Ans.of (specCpuStep_a s hs hroom)).bind ?_
 rintro _ rfl
 refine (Ans.of (specWait_a s hs)).bind ?_
 rintro _ rfl
 dsimp only
 rw[neI_s,cond_false,beq_self_eq_true,Bool.not_true,cond_false]
 have hsp:=specSplitOk_ok s.t hs
 cases hk:splitOk s.t
 ·have e1:cpuStepA s=(split0,false):=by unfold cpuStepA;rw[hk,if_neg (by simp)]
  have e2:waitA s=6:=by unfold waitA;rw[hk,if_neg (by simp)]
  have x:Ans ((r29 (s.t,())).bind fun r7=>bif !r7.1.1 then some ((eqI (lenI split0.2.2.1) 0,()),())else no) fun r=>r=((true,()),()):=by
   refine (Ans.of hsp).bind ?_
   rintro _ rfl
   rw[hk]
   exact .ret rfl
  rw[e1,e2]
  simp only[show eqI (6:Int) 0=false from rfl,show eqI (6:Int) 6=true from rfl,beq_self_eq_true,Bool.not_true,cond_false,cond_true]
  exact .cond (fun _=> .cond (fun _=>x) fun _=>x) fun _=> .cond (fun _=>x) fun _=>x
 ·have h:=splitOk_iff.1 hk
  have e1:cpuStepA s=((stepGet s).t,stepIs s):=by unfold cpuStepA;rw[hk,if_pos rfl]
  have e2:waitA s=waitM s:=by unfold waitA;rw[hk,if_pos rfl]
  rw[e1,e2]
  dsimp only
  have e3:stepIs s=eqI (waitM s) 0:=by rw[eqI_d];rfl
  rw[e3,beq_self_eq_true,Bool.not_true,cond_false]
  rcases wait_facts h with hw| ⟨hw,hf⟩| ⟨hw,hf⟩| ⟨hw,hf⟩| ⟨hw,hf⟩| ⟨hw,hf⟩
  ·have e4:stepGet s=stepS s:=by unfold stepGet;rw[if_pos hw]
   obtain ⟨p1,p2,p3,p4,p5,_⟩:=stepS_P h hw
   have ht:=h.t
   rw[hw,e4]
   simp only[show eqI (0:Int) 0=true from rfl,show eqI (0:Int) 1=false from rfl,show eqI (0:Int) 2=false from rfl,show eqI (0:Int) 3=false from rfl,show eqI (0:Int) 4=false from rfl,show eqI (0:Int) 5=false from rfl,show eqI (0:Int) 6=false from rfl,cond_false,cond_true]
   refine (Ans.of (sameSplit_self (stepS s) (p1.s (by omega)))).bind ?_
   rintro _ rfl
   dsimp only
   rw[Bool.not_true,cond_false]
   have x:Ans (bif ltI s.T (stepS s).T then some ((leI (stepS s).T (wI (s.T+7)),()),())else no) fun r=>r=((true,()),()):=by
    rw[ltI_t p4,cond_true,wI_id (by omega) (by omega),leI_t p5]
    exact .ret rfl
   exact .cond (fun _=> .cond (fun _=>x) fun _=>x) fun _=> .cond (fun _=>x) fun _=>x
  ·rw[hw]
   simp only[show eqI (1:Int) 0=false from rfl,show eqI (1:Int) 1=true from rfl,show eqI (1:Int) 6=false from rfl,cond_false,cond_true]
   have x:s.pic.ppu.T=s.T→Ans (some ((!eqI (lenI s.pic.list) 0,()),())) fun r=>r=((true,()),()):=fun hb=>by
    unfold picUpM at hf
    rw[eqI_t hb,Bool.true_and]at hf
    rw[lenI_def,hf]
    exact .ret rfl
   exact .cond (fun hb=> .cond (fun _=>x (eqI_iff.1 hb)) fun _=>x (eqI_iff.1 hb)) fun _=> .cond (fun _=> .ret rfl) fun _=> .ret rfl
  ·rw[hw]
   simp only[show eqI (2:Int) 0=false from rfl,show eqI (2:Int) 1=false from rfl,show eqI (2:Int) 2=true from rfl,show eqI (2:Int) 6=false from rfl,cond_false,cond_true]
   have x:s.snd.apu.T=s.T→Ans (some ((!eqI (lenI s.snd.list) 0,()),())) fun r=>r=((true,()),()):=fun hb=>by
    unfold sndUpM at hf
    rw[eqI_t hb,Bool.true_and]at hf
    rw[lenI_def,hf]
    exact .ret rfl
   exact .cond (fun _=> .cond (fun hb=>x (eqI_iff.1 hb)) fun _=> .ret rfl) fun _=> .cond (fun hb=>x (eqI_iff.1 hb)) fun _=> .ret rfl
  ·rw[hw]
   simp only[show eqI (3:Int) 0=false from rfl,show eqI (3:Int) 1=false from rfl,show eqI (3:Int) 2=false from rfl,show eqI (3:Int) 3=true from rfl,show eqI (3:Int) 6=false from rfl,cond_false,cond_true]
   have x:Ans (some ((eqI (lenI s.pic.list) s.pic.cap,()),())) fun r=>r=((true,()),()):=by
    rw[lenI_def,eqI_t hf]
    exact .ret rfl
   exact .cond (fun _=> .cond (fun _=>x) fun _=>x) fun _=> .cond (fun _=>x) fun _=>x
  ·rw[hw]
   simp only[show eqI (4:Int) 0=false from rfl,show eqI (4:Int) 1=false from rfl,show eqI (4:Int) 2=false from rfl,show eqI (4:Int) 3=false from rfl,show eqI (4:Int) 4=true from rfl,show eqI (4:Int) 6=false from rfl,cond_false,cond_true]
   have x:Ans (some ((eqI (lenI s.snd.list) s.snd.cap,()),())) fun r=>r=((true,()),()):=by
    rw[lenI_def,eqI_t hf]
    exact .ret rfl
   exact .cond (fun _=> .cond (fun _=>x) fun _=>x) fun _=> .cond (fun _=>x) fun _=>x
  ·rw[hw]
   simp only[show eqI (5:Int) 0=false from rfl,show eqI (5:Int) 1=false from rfl,show eqI (5:Int) 2=false from rfl,show eqI (5:Int) 3=false from rfl,show eqI (5:Int) 4=false from rfl,show eqI (5:Int) 5=true from rfl,show eqI (5:Int) 6=false from rfl,cond_false,cond_true]
   have x:Ans (bif ltI 19992 s.T then some ((true,()),())else no) fun r=>r=((true,()),()):=by
    rw[ltI_t hf,cond_true]
    exact .ret rfl
   exact .cond (fun _=> .cond (fun _=>x) fun _=>x) fun _=> .cond (fun _=>x) fun _=>x

end Go.Proofs.YtgeodknaigdenaaGreat.Plain
