/- A law answers true. No condition. -/
import Derived.Test.YtgeodknaigdenaaGreatPI
set_option linter.unusedVariables false
set_option linter.unusedSimpArgs false
namespace Go.Proofs.YtgeodknaigdenaaGreat.Plain
open Go Go.Tev
theorem run_stop: ∀(m:Nat) (l:LockM),runL (runL m l).2 l=((runL m l).1,(runL m l).2)
 |0,l=>rfl
 |m+1,l=>by
  cases hq:mayL l with
  |false=>rw[runL_f hq];rfl
  |true=>rw[runL_t hq,runL_t hq,run_stop m (stepL l)]
theorem run_cut: ∀(c m:Nat) (l:LockM),c≤(runL m l).2→(runL c l).2=c∧runL (m-c) (runL c l).1=((runL m l).1,(runL m l).2-c)
 |0,m,l,_=>⟨rfl,rfl⟩
 |c+1,0,l,h=>by cases h
 |c+1,m+1,l,h=>by
  cases hq:mayL l with
  |false=>rw[runL_f hq]at h;cases h
  |true=>
   rw[runL_t hq]at h
   obtain ⟨a,b⟩:=run_cut c m (stepL l) (Nat.le_of_succ_le_succ h)
   rw[runL_t hq,runL_t hq,Nat.add_sub_add_right,Nat.add_sub_add_right]
   exact ⟨by rw[a],b⟩
structure ExtL (l m:LockM):Prop where
 fr: ∃c,m.frames=l.frames++c
 sa: ∃c,m.samples=l.samples++c
 re: ∃c,m.reads=l.reads++c
theorem ExtL.refl' (l:LockM):ExtL l l:=⟨⟨[],(List.append_nil _).symm⟩,⟨[],(List.append_nil _).symm⟩,⟨[],(List.append_nil _).symm⟩⟩
theorem ExtL.trans {a b c:LockM} (h:ExtL a b) (k:ExtL b c):ExtL a c:=by
 obtain ⟨⟨x1,e1⟩,⟨x2,e2⟩,⟨x3,e3⟩⟩:=h
 obtain ⟨⟨y1,f1⟩,⟨y2,f2⟩,⟨y3,f3⟩⟩:=k
 exact ⟨⟨x1++y1,by rw[f1,e1,List.append_assoc]⟩,⟨x2++y2,by rw[f2,e2,List.append_assoc]⟩,⟨x3++y3,by rw[f3,e3,List.append_assoc]⟩⟩
theorem ExtL.beg {a b:LockM} (h:ExtL a b):obsBeg (lkObs a.t) (lkObs b.t)=true:=by
 obtain ⟨⟨x1,e1⟩,⟨x2,e2⟩,⟨x3,e3⟩⟩:=h
 show (Plain.beg a.frames b.frames&&(Plain.beg a.samples b.samples&&Plain.beg a.reads b.reads))=true
 rw[e1,e2,e3,beg_app,beg_app,beg_app]
 rfl
theorem tickL_ext (l:LockM):ExtL l (tickL l):=by
 refine ⟨?_,?_,⟨[],(List.append_nil _).symm⟩⟩
 ·show∃c,(if toldP l.ppu then l.frames++[frameP l.ppu]else l.frames)=l.frames++c
  split
  ·exact ⟨_,rfl⟩
  ·exact ⟨[],(List.append_nil _).symm⟩
 ·show∃c,(if toldA l.apu then l.samples++[sampleA l.apu]else l.samples)=l.samples++c
  split
  ·exact ⟨_,rfl⟩
  ·exact ⟨[],(List.append_nil _).symm⟩
theorem ticksL_ext: ∀(n:Nat) (l:LockM),ExtL l (ticksL n l)
 |0,l=> .refl' l
 |n+1,l=>(tickL_ext l).trans (ticksL_ext n (tickL l))
theorem readL_ext (l:LockM) (a:Int):ExtL l (readL l a):=by
 unfold readL
 repeat' split
 all_goals first|exact .refl' l|exact ⟨⟨[],(List.append_nil _).symm⟩,⟨[],(List.append_nil _).symm⟩,⟨_,rfl⟩⟩
theorem writeL_ext (l:LockM) (a v:Int):ExtL l (writeL l a v):=by
 unfold writeL
 repeat' split
 all_goals exact ⟨⟨[],(List.append_nil _).symm⟩,⟨[],(List.append_nil _).symm⟩,⟨[],(List.append_nil _).symm⟩⟩
theorem doL_ext (l:LockM):ExtL l (doL l):=by
 unfold doL
 split
 ·exact ⟨⟨[],(List.append_nil _).symm⟩,⟨[],(List.append_nil _).symm⟩,⟨[],(List.append_nil _).symm⟩⟩
 split
 ·exact ⟨⟨[],(List.append_nil _).symm⟩,⟨[],(List.append_nil _).symm⟩,⟨[],(List.append_nil _).symm⟩⟩
 unfold opL
 split
 ·obtain ⟨a,b,c⟩:=readL_ext l (accA (fetchOp l) (fetchArg l) l.cpu.x)
  exact ⟨a,b,c⟩
 split
 ·obtain ⟨a,b,c⟩:=writeL_ext l (accA (fetchOp l) (fetchArg l) l.cpu.x) (l.cpu.a%256)
  exact ⟨a,b,c⟩
 ·exact ⟨⟨[],(List.append_nil _).symm⟩,⟨[],(List.append_nil _).symm⟩,⟨[],(List.append_nil _).symm⟩⟩
theorem stepL_ext (l:LockM):ExtL l (stepL l):=by
 obtain ⟨a,b,c⟩:=(doL_ext l).trans (ticksL_ext (cyclesL l).toNat (doL l))
 exact ⟨a,b,c⟩
theorem runL_ext: ∀(n:Nat) (l:LockM),ExtL l (runL n l).1
 |0,l=> .refl' l
 |n+1,l=>by
  cases hq:mayL l with
  |false=>rw[runL_f hq];exact .refl' l
  |true=>rw[runL_t hq];exact (stepL_ext l).trans (runL_ext n (stepL l))
theorem plain8: ∀y:PTup i8,wfTs i8 y→ ∃b,r8 y=some ((true,()),b):=by
 rintro ⟨code,_⟩ ⟨hcode,_⟩
 refine ⟨(),of_ans ?_⟩
 unfold r8 m8
 refine (Ans.of (big_ok code)).bind ?_
 rintro _ rfl
 dsimp only
 refine few_or code () () fun hb=> ?_
 refine (drawLockRun_ok hb).bind ?_
 rintro _ ⟨l,n,rfl,hs,hr,hn⟩
 refine (Ans.of (implLockRun_a l n hs (by omega))).bind ?_
 rintro _ rfl
 refine (Ans.of (specLockRun_a l n hs (by omega))).bind ?_
 rintro _ rfl
 dsimp only
 rw[neI_s,cond_false]
 refine (Ans.of (specLockOk_ok l hs)).bind ?_
 rintro _ rfl
 dsimp only
 cases hk:lockOkM l
 ·have e:lockRunA l n=(lock0,0):=by unfold lockRunA;rw[hk,if_neg (by simp)]
  rw[e,Bool.not_false,cond_true,eqI_t rfl,cond_true]
  exact .ret rfl
 have h:=lockOkM_iff.1 hk
 rw[Bool.not_true,cond_false]
 have e: ∀(u:LockM) (n:Int),LockP u→lockRunA u n=((runL (manyN n) u).1.t,((runL (manyN n) u).2:Int)):=fun u n hu=>by unfold lockRunA;rw[lockOkM_iff.2 hu,if_pos rfl]
 have em: ∀n:Nat,n≤60→manyN (n:Int)=n:=fun n hn=>by unfold manyN;split<;>omega
 have hm:manyN n≤60:=by unfold manyN;split<;>omega
 rw[e l n h]
 generalize manyN n=m at hm⊢
 obtain ⟨p1,p2,p3,p4⟩:=runL_P (n:=m) h
 refine (at_ok code hb 1 (by omega) hcode.2).bind ?_
 rintro _ ⟨v,rfl,v0,v1⟩
 dsimp only
 have hw:wI (((runL m l).2:Int)+1)=((runL m l).2:Int)+1:=wI_id (by omega) (by omega)
 rw[hw,neI_t (by omega),cond_true]
 obtain ⟨t0,t1⟩:=tmod_b (a:=v) (n:=((runL m l).2:Int)+1) v0 (by omega)
 generalize Int.tmod v (((runL m l).2:Int)+1)=c at t0 t1⊢
 obtain ⟨c,rfl⟩: ∃n:Nat,c=n:=⟨c.toNat,by omega⟩
 refine (Ans.of (implLockRun_a l (c:Int) hs (by omega))).bind ?_
 rintro _ rfl
 rw[e l _ h,em c (by omega)]
 obtain ⟨q1,q2,q3,q4⟩:=runL_P (n:=c) h
 obtain ⟨c1,c2⟩:=run_cut c (runL m l).2 l (by rw[run_stop];exact Nat.le_of_lt_succ (by omega))
 rw[run_stop]at c2
 have hw2:wI (((runL m l).2:Int)-(c:Int))=(((runL m l).2-c:Nat):Int):=by rw[wI_id (by omega) (by omega)];omega
 dsimp only
 rw[hw2]
 refine (Ans.of (implLockRun_a (runL c l).1 _ (q1.s (by omega)) (by omega))).bind ?_
 rintro _ rfl
 rw[e _ _ q1,em _ (by omega),c2,c1]
 dsimp only
 rw[eqI_t rfl,cond_true,eqI_t rfl,cond_true]
 refine (Ans.of (implLockSame_ok _ _ (p1.s (by omega)))).bind ?_
 rintro _ rfl
 dsimp only
 rw[lockEq_self,cond_true]
 have x1:=runL_ext m l
 have x2:ExtL (runL c l).1 (runL m l).1:=by
  have:=runL_ext ((runL m l).2-c) (runL c l).1
  rw[c2]at this
  exact this
 have o1:obsOk (lkObs l.t):=hs.2.2.2.2
 have o2:obsOk (lkObs (runL c l).1.t):=(q1.s (by omega)).2.2.2.2
 refine (Ans.of (implBegins_ok (lkObs l.t) (lkObs (runL m l).1.t) o1)).bind ?_
 rintro _ rfl
 rw[x1.beg]
 dsimp only
 rw[cond_true]
 refine (Ans.of (implBegins_ok (lkObs (runL c l).1.t) (lkObs (runL m l).1.t) o2)).bind ?_
 rintro _ rfl
 rw[x2.beg]
 exact .ret rfl

end Go.Proofs.YtgeodknaigdenaaGreat.Plain
