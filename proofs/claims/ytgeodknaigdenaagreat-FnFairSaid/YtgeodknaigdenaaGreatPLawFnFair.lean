/- A law answers true. No condition. -/
import Derived.Test.YtgeodknaigdenaaGreatPI
set_option linter.unusedVariables false
set_option linter.unusedSimpArgs false
namespace Go.Proofs.YtgeodknaigdenaaGreat.Plain
open Go Go.Tev
theorem fairM_s {n:Nat} {s:SplitM} (h:stepIs (levelM s)=true):fairM (n+1) s=((fairM n (stepGet (levelM s))).1,(fairM n (stepGet (levelM s))).2+1):=by
 show (if stepIs (levelM s)then _ else _)=_
 rw[h,if_pos rfl]
theorem fairM_f {n:Nat} {s:SplitM} (h:stepIs (levelM s)=false):fairM (n+1) s=(levelM s,0):=by
 have e:stepGet (levelM s)=levelM s:=by unfold stepGet;rw[if_neg (of_decide_eq_false h)]
 show (if stepIs (levelM s)then _ else _)=_
 rw[h,if_neg (by simp),e]
theorem fair_stop: ∀(m:Nat) (s:SplitM),SplitP s→(fairM (fairM m s).2 s).2=(fairM m s).2∧levelM (fairM (fairM m s).2 s).1=levelM (fairM m s).1
 |0,s,h=>⟨rfl,rfl⟩
 |m+1,s,h=>by
  cases hi:stepIs (levelM s)with
  |false=>
   rw[fairM_f hi]
   exact ⟨rfl,(levelA_idem h).symm⟩
  |true=>
   rw[fairM_s hi]
   obtain ⟨a,b⟩:=fair_stop m (stepGet (levelM s)) (stepGet_P (levelM_P h).1).1
   rw[fairM_s hi]
   exact ⟨by rw[a],b⟩
theorem fair_cut: ∀(c m:Nat) (s:SplitM),c≤(fairM m s).2→(fairM c s).2=c∧fairM (m-c) (fairM c s).1=((fairM m s).1,(fairM m s).2-c)
 |0,m,s,_=>⟨rfl,rfl⟩
 |c+1,0,s,h=>by cases h
 |c+1,m+1,s,h=>by
  cases hi:stepIs (levelM s)with
  |false=>rw[fairM_f hi]at h;cases h
  |true=>
   rw[fairM_s hi]at h
   obtain ⟨a,b⟩:=fair_cut c m (stepGet (levelM s)) (by omega)
   rw[fairM_s hi,fairM_s hi,Nat.add_sub_add_right,Nat.add_sub_add_right]
   exact ⟨by rw[a],b⟩
theorem fair_steps: ∀(m:Nat) (s:SplitM),SplitP s→(fairM m s).1.steps=s.steps+((fairM m s).2:Int)
 |0,s,h=>by show s.steps=s.steps+0;omega
 |m+1,s,h=>by
  cases hi:stepIs (levelM s)with
  |false=>rw[fairM_f hi];show s.steps=s.steps+0;omega
  |true=>
   have hw:waitM (levelM s)=0:=of_decide_eq_true hi
   have e:stepGet (levelM s)=stepS (levelM s):=by unfold stepGet;rw[if_pos hw]
   rw[fairM_s hi]
   have a:=fair_steps m (stepGet (levelM s)) (stepGet_P (levelM_P h).1).1
   have b:=(stepS_P (levelM_P h).1 hw).2.1
   rw[←e]at b
   have c:(levelM s).steps=s.steps:=rfl
   show (fairM m (stepGet (levelM s))).1.steps=s.steps+(((fairM m (stepGet (levelM s))).2+1:Nat):Int)
   omega
theorem plain13: ∀y:PTup i13,wfTs i13 y→ ∃b,r13 y=some ((true,()),b):=by
 rintro ⟨code,_⟩ ⟨hcode,_⟩
 refine ⟨(),of_ans ?_⟩
 unfold r13 m13
 refine (Ans.of (big_ok code)).bind ?_
 rintro _ rfl
 dsimp only
 refine few_or code () () fun hb=> ?_
 refine (drawFair_ok hb).bind ?_
 rintro _ ⟨s,n,rfl,hs,hr,hn⟩
 have hroom:Room s:=roomS hr
 refine (Ans.of (implFair_a s n hs (by omega))).bind ?_
 rintro _ rfl
 refine (Ans.of (specFair_a s n hs (by omega))).bind ?_
 rintro _ rfl
 dsimp only
 rw[neI_s,cond_false]
 refine (Ans.of (specSplitOk_ok s.t hs)).bind ?_
 rintro _ rfl
 dsimp only
 cases hk:splitOk s.t
 ·have e:fairA s n=(split0,0):=by unfold fairA;rw[hk,if_neg (by simp)]
  rw[e,Bool.not_false,cond_true,eqI_t rfl,cond_true]
  exact .ret rfl
 have h:=splitOk_iff.1 hk
 rw[Bool.not_true,cond_false]
 have e: ∀(u:SplitM) (n:Int),SplitP u→fairA u n=((fairM (manyN n) u).1.t,((fairM (manyN n) u).2:Int)):=fun u n hu=>by unfold fairA;rw[splitOk_iff.2 hu,if_pos rfl]
 have em: ∀n:Nat,n≤40→manyN (n:Int)=n:=fun n hn=>by unfold manyN;split<;>omega
 have hm:manyN n≤40:=by unfold manyN;split<;>omega
 rw[e s n h]
 generalize manyN n=m at hm⊢
 obtain ⟨p1,p2,p3⟩:=fairM_P (n:=m) h
 refine (at_ok code hb 1 (by omega) hcode.2).bind ?_
 rintro _ ⟨v,rfl,v0,v1⟩
 dsimp only
 have hw:wI (((fairM m s).2:Int)+1)=((fairM m s).2:Int)+1:=wI_id (by omega) (by omega)
 rw[hw,neI_t (by omega),cond_true]
 obtain ⟨t0,t1⟩:=tmod_b (a:=v) (n:=((fairM m s).2:Int)+1) v0 (by omega)
 generalize Int.tmod v (((fairM m s).2:Int)+1)=c at t0 t1⊢
 obtain ⟨c,rfl⟩: ∃n:Nat,c=n:=⟨c.toNat,by omega⟩
 refine (Ans.of (implFair_a s (c:Int) hs (by omega))).bind ?_
 rintro _ rfl
 rw[e s _ h,em c (by omega)]
 obtain ⟨q1,q2,q3⟩:=fairM_P (n:=c) h
 obtain ⟨s1,s2⟩:=fair_stop m s h
 obtain ⟨c1,c2⟩:=fair_cut c (fairM m s).2 s (by omega)
 rw[s1]at c2
 have hw2:wI (((fairM m s).2:Int)-(c:Int))=(((fairM m s).2-c:Nat):Int):=by rw[wI_id (by omega) (by omega)];omega
 dsimp only
 rw[hw2]
 refine (Ans.of (implFair_a (fairM c s).1 _ (q1.s (by omega)) (by omega))).bind ?_
 rintro _ rfl
 rw[e _ _ q1,em _ (by omega),c2,c1]
 dsimp only
 rw[eqI_t rfl,cond_true,eqI_t rfl,cond_true]
 obtain ⟨o1,o2,o3⟩:=fairM_P (n:=(fairM m s).2) h
 have hb1:splitOkS (fairM (fairM m s).2 s).1.t:=o1.s (by omega)
 refine (Ans.of (implLevel_a _ hb1 (by unfold Room;omega))).bind ?_
 rintro _ rfl
 refine (Ans.of (implLevel_a (fairM m s).1 (p1.s (by omega)) (by unfold Room;omega))).bind ?_
 rintro _ rfl
 rw[levelA_P o1,levelA_P p1,s2]
 refine (Ans.of (sameSplit_self _ ((levelM_P p1).1.s (by show (fairM m s).1.reads.length≤_;omega)))).bind ?_
 rintro _ rfl
 dsimp only
 rw[cond_true]
 have hst:=h.steps
 have hT:=h.t
 have hf:=fair_steps m s h
 show Ans (some ((eqI (fairM m s).1.steps (wI (s.steps+((fairM m s).2:Int))),()),())) _
 rw[wI_id (by omega) (by omega),eqI_t hf]
 exact .ret rfl

end Go.Proofs.YtgeodknaigdenaaGreat.Plain
