/- A law answers true. No condition. -/
import Derived.Test.YtgpifihakjdfeaaGreatPJ
set_option linter.unusedVariables false
set_option linter.unusedSimpArgs false
namespace Go.Proofs.YtgpifihakjdfeaaGreat.Plain
open Go Go.Tev
theorem lockEq_imp {a b:Tup lockL} (h:lockEq a b=true):lockEq b a=true:=by
 simp only[lockEq,cpuEq,apuEq,padEq,memEq,ppuEq,obsEq,Bool.and_eq_true,eqI_iff,beq_iff_eq,decide_eq_true_eq,and_true]at h⊢
 simp only[h,and_self]
theorem lockEq_comm (a b:Tup lockL):lockEq a b=lockEq b a:=by
 cases h:lockEq a b
 ·cases k:lockEq b a
  ·rfl
  ·rw[lockEq_imp k]at h;cases h
 ·exact (lockEq_imp h).symm
theorem bulk_set: ∀(f:List (List Int)) (i:Nat) (l:List Int) (h:i<f.length),l.length=f[i].length→bulk (f.set i l)=bulk f
 |x::f,0,l,_,e=>by simp only[List.set_cons_zero,bulk];rw[show l.length=x.length from e]
 |x::f,i+1,l,h,e=>by
  simp only[List.set_cons_succ,bulk]
  rw[bulk_set f i l (by simpa using h) (by simpa using e)]
theorem obsOk_nil:obsOk (([],([],([],()))):Tup obsL):=⟨small_nil,Nat.zero_le _,Nat.zero_le _⟩
theorem l17DrawObs_ok {b:List Int} {t:CurT} (h:Cur b t):Ans (r90 ((b,t),())) fun r=> ∃(x y:Tup obsL) (g:Bool) (t':CurT),r=((x,(y,(g,()))),((b,t'),()))∧obsOk x∧obsOk y:=by
 unfold r90 m90
 refine (l12DrawRight_ok h).bind ?_
 rintro _ ⟨_,t1,rfl,hc,l,rfl,hl,hr⟩
 have hs:lockOkS l.t:=hl.s (by omega)
 refine (l1Below_ok hc 30).bind ?_
 rintro _ ⟨(n:Int),t2,rfl,hc,_⟩
 refine (Ans.of (specLockRun_a l n hs (by omega))).bind ?_
 rintro _ rfl
 have hm:=lockRunA_S (l:=l) (by omega) n
 generalize (lockRunA l n).1=m at hm⊢
 have ol:obsOk (lkObs l.t):=hs.2.2.2.2
 have om:obsOk (lkObs m):=hm.2.2.2.2
 refine (l1Below_ok hc 6).bind ?_
 rintro _ ⟨(q:Int),t3,rfl,hc,_⟩
 refine Ans.cond (fun _=> ?_) fun _=>Ans.cond (fun _=> ?_) fun _=>Ans.cond (fun _=> ?_) fun _=> ?_
 ·refine Ans.cond (fun c=>Ans.if_t c (Ans.if_t c (.ret ⟨lkObs l.t,((lkObs m).1,((List.set (lkObs m).2.1 (Int.toNat (0:Int)) (wI ((rdE .i (lkObs m).2.1 (0:Int))+(1:Int)))),(lkObs m).2.2)),false,_,rfl,ol,om.1,?_,om.2.2⟩))) fun _=> .ret ⟨_,_,_,_,rfl,ol,om⟩
  show (List.set (lkObs m).2.1 _ _).length≤_
  rw[List.length_set];exact om.2.1
 ·refine Ans.cond (fun c=>Ans.if_t c (Ans.if_t c ?_)) fun _=> .ret ⟨_,_,_,_,rfl,ol,om⟩
  have hpos:0<l.frames.length:=by
   have c:ltI 0 (l.frames.length:Int)=true:=c
   rcases Nat.lt_or_ge 0 l.frames.length with h1|h1
   ·exact h1
   ·rw[ltI_f (by omega)]at c;cases c
  have e:rdE .n l.frames 0=l.frames[0]:=rdE_nat .n l.frames 0 hpos
  have h48:(l.frames[0]'hpos).length=48:=hl.fr _ (List.getElem_mem _)
  have c2:ltI 1 (lenI (rdE .n l.frames 0))=true:=by rw[e];show ltI 1 ((l.frames[0].length:Nat):Int)=true;exact ltI_t (by omega)
  refine Ans.if_t c2 (Ans.if_t c2 (.ret ⟨((List.set l.frames (Int.toNat (0:Int)) (List.set (rdE .n l.frames (0:Int)) (Int.toNat (1:Int)) (wI ((rdI (rdE .n l.frames (0:Int)) (1:Int))+(1:Int))))),(lkObs l.t).2),_,_,_,rfl,?_,om⟩))
  refine ⟨?_,ol.2.1,ol.2.2⟩
  show small (l.frames.set 0 ((rdE .n l.frames 0:List Int).set 1 _))
  rw[e]
  obtain ⟨s1,s2,s3⟩:=ol.1
  have s1:l.frames.length≤4398046511104:=s1
  have s3:bulk l.frames≤4398046511104:=s3
  refine ⟨by rw[List.length_set];exact s1,fun x hx=> ?_,by rw[bulk_set _ _ _ hpos (List.length_set ..)];exact s3⟩
  rcases List.mem_or_eq_of_mem_set hx with h1|h1
  ·exact s2 x h1
  ·rw[h1,List.length_set,h48];decide
 ·exact .ret ⟨_,_,_,_,rfl,om,obsOk_nil⟩
 ·exact .ret ⟨_,_,_,_,rfl,ol,om⟩
theorem drawObsBegins_ok {b:List Int} (hb:b.length≤1048576):Ans (r30 (b,())) fun r=> ∃(x y:Tup obsL) (g:Bool),r=((x,(y,(g,()))),())∧obsOk x∧obsOk y:=by
 unfold r30 m30
 refine (l1New_ok b hb).bind ?_
 rintro _ ⟨t,rfl,hc⟩
 refine (l17DrawObs_ok hc).bind ?_
 rintro _ ⟨x,y,g,t',rfl,hx,hy⟩
 exact Ans.cond (fun _=> .ret ⟨_,_,_,rfl,hx,obsOk_nil⟩) fun _=> .ret ⟨_,_,_,rfl,hx,hy⟩
theorem drawLockSame_ok {b:List Int} (hb:b.length≤1048576):Ans (r33 (b,())) fun r=> ∃x y:Tup lockL,r=((x,(y,())),())∧lockOkS x∧lockOkS y:=by
 unfold r33 m33
 refine (l1New_ok b hb).bind ?_
 rintro _ ⟨t,rfl,hc⟩
 refine (l12Draw_ok hc).bind ?_
 rintro _ ⟨_,t1,rfl,hc,l,rfl,hs,hr⟩
 refine (Ans.of (l12Copy_t l hs)).bind ?_
 rintro _ rfl
 refine (l1Below_ok hc 6).bind ?_
 rintro _ ⟨(q:Int),t2,rfl,hc,_⟩
 refine Ans.cond (fun _=> ?_) fun _=>Ans.cond (fun _=> ?_) fun _=>Ans.cond (fun _=> ?_) fun _=>Ans.cond (fun _=> ?_) fun _=> ?_
 ·exact .ret ⟨l.t,_,rfl,hs,⟨hs.1,hs.2.1,hs.2.2.1,hs.2.2.2.1,hs.2.2.2.2⟩⟩
 ·refine Ans.cond (fun c=>Ans.if_t c (Ans.if_t c (.ret ⟨l.t,_,rfl,hs,⟨hs.1,hs.2.1,?_,hs.2.2.2.1,hs.2.2.2.2⟩⟩))) fun _=> .ret ⟨_,_,rfl,hs,hs⟩
  show (List.set l.mem.ram _ _).length≤_
  rw[List.length_set];exact hs.2.2.1
 ·refine (Ans.of (specLockRun_a l 1 hs (by omega))).bind ?_
  rintro _ rfl
  exact .ret ⟨_,_,rfl,hs,lockRunA_S (by omega) 1⟩
 ·exact .ret ⟨l.t,_,rfl,hs,⟨hs.1,hs.2.1,hs.2.2.1,⟨hs.2.2.2.1.1,hs.2.2.2.1.2⟩,hs.2.2.2.2⟩⟩
 ·exact .ret ⟨_,_,rfl,hs,hs⟩
theorem obs_tail {code:List Int} (hb:code.length≤1048576) {a:Tup obsL} (ha:obsOk a):Ans ((r29 (a,(a,()))).bind fun r7=>bif (!r7.1.1)then (some ((false,()),()))else (r33 (code,())).bind fun r8=>
  (r26 (r8.1.1,(r8.1.2.1,()))).bind fun r9=>(r34 (r8.1.1,(r8.1.2.1,()))).bind fun r10=>bif (r9.1.1==r10.1.1)then ((r26 (r8.1.2.1,(r8.1.1,()))).bind fun r11=>
   bif (r9.1.1==r11.1.1)then ((r26 (r8.1.1,(r8.1.1,()))).bind fun r12=>some (r12.1,()))else some ((false,()),()))else some ((false,()),())) fun r=>r=((true,()),()):=by
 refine (Ans.of (implSame_ok a a ha)).bind ?_
 rintro _ rfl
 refine Ans.if_f (show (!(obsEq a a))=false by rw[obsEq_self];rfl) ?_
 refine (drawLockSame_ok hb).bind ?_
 rintro _ ⟨x,y,rfl,hx,hy⟩
 refine (Ans.of (implLockSame_ok x y hx)).bind ?_
 rintro _ rfl
 refine (Ans.of (specLockSame_ok x y hx hy)).bind ?_
 rintro _ rfl
 refine Ans.if_t (beq_self_eq_true _) ?_
 refine (Ans.of (implLockSame_ok y x hy)).bind ?_
 rintro _ rfl
 refine Ans.if_t (show (lockEq x y==lockEq y x)=true by rw[lockEq_comm x y];exact beq_self_eq_true _) ?_
 refine (Ans.of (implLockSame_ok x x hx)).bind ?_
 rintro _ rfl
 exact .ret (show ((lockEq x x,()),())=((true,()),()) by rw[lockEq_self])
theorem plain5: ∀y:PTup i5,wfTs i5 y→ ∃b,r5 y=some ((true,()),b):=by
 rintro ⟨code,_⟩ ⟨hcode,_⟩
 refine ⟨(),of_ans ?_⟩
 unfold r5 m5
 refine (Ans.of (big_ok code)).bind ?_
 rintro _ rfl
 dsimp only
 refine few_or code () () fun hb=> ?_
 refine (drawObsBegins_ok hb).bind ?_
 rintro _ ⟨a,b,g,rfl,ha,hb2⟩
 refine Ans.cond (fun _=> ?_) fun _=> ?_
 ·refine (Ans.of (implBegins_ok a a ha)).bind ?_
  rintro _ rfl
  refine (Ans.of (implBegins_ok a a ha)).bind ?_
  rintro _ rfl
  refine (Ans.of (implSame_ok a a ha)).bind ?_
  rintro _ rfl
  refine (Ans.of (specBegins_ok a a ha)).bind ?_
  rintro _ rfl
  refine Ans.if_f (show (!(obsBeg a a==obsBeg a a))=false by rw[beq_self_eq_true];rfl) ?_
  refine (Ans.of (specSame_ok a a ha ha)).bind ?_
  rintro _ rfl
  refine Ans.if_f (show (!(obsEq a a==obsEq a a))=false by rw[beq_self_eq_true];rfl) ?_
  have hboth:=obsBeg_both a a
  refine Ans.cond (fun h=> ?_) fun h=> ?_
  ·have h:obsBeg a a=true:=h
   rw[h,Bool.true_and]at hboth
   exact Ans.if_f (show (!(obsEq a a==obsBeg a a))=false by rw[←hboth,h];rfl) (obs_tail hb ha)
  ·have h:obsBeg a a=false:=h
   rw[h,Bool.false_and]at hboth
   exact Ans.if_f (show (!(obsEq a a==false))=false by rw[←hboth];rfl) (obs_tail hb ha)
 ·refine (Ans.of (implBegins_ok a b ha)).bind ?_
  rintro _ rfl
  refine (Ans.of (implBegins_ok b a hb2)).bind ?_
  rintro _ rfl
  refine (Ans.of (implSame_ok a b ha)).bind ?_
  rintro _ rfl
  refine (Ans.of (specBegins_ok a b ha)).bind ?_
  rintro _ rfl
  refine Ans.if_f (show (!(obsBeg a b==obsBeg a b))=false by rw[beq_self_eq_true];rfl) ?_
  refine (Ans.of (specSame_ok a b ha hb2)).bind ?_
  rintro _ rfl
  refine Ans.if_f (show (!(obsEq a b==obsEq a b))=false by rw[beq_self_eq_true];rfl) ?_
  have hboth:=obsBeg_both a b
  refine Ans.cond (fun h=> ?_) fun h=> ?_
  ·have h:obsBeg a b=true:=h
   rw[h,Bool.true_and]at hboth
   exact Ans.if_f (show (!(obsEq a b==obsBeg b a))=false by rw[←hboth,beq_self_eq_true];rfl) (obs_tail hb ha)
  ·have h:obsBeg a b=false:=h
   rw[h,Bool.false_and]at hboth
   exact Ans.if_f (show (!(obsEq a b==false))=false by rw[←hboth];rfl) (obs_tail hb ha)

end Go.Proofs.YtgpifihakjdfeaaGreat.Plain
