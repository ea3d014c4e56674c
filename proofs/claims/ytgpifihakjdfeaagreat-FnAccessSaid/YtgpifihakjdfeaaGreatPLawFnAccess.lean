/- A law answers true. No condition. -/
import Derived.Test.YtgpifihakjdfeaaGreatPJ
set_option linter.unusedVariables false
set_option linter.unusedSimpArgs false
namespace Go.Proofs.YtgpifihakjdfeaaGreat.Plain
open Go Go.Tev
theorem lockRead_s {l:LockM} (a:Int) (hs:lockOkS l.t) (hr:l.reads.length≤1000):lockOkS (lockReadA l a).1.t:=by
 unfold lockReadA
 cases hk:lockOkM l with
 |false=>exact hs
 |true=>
  have:=readL_reads l a
  exact (readL_P (lockOkM_iff.1 hk) a).s (by show (readL l a).reads.length≤_;omega)
theorem lockWrite_s {l:LockM} (a v:Int) (hs:lockOkS l.t) (hr:l.reads.length≤1000):lockOkS (lockWriteA l a v).t:=by
 unfold lockWriteA
 cases hk:lockOkM l with
 |false=>exact hs
 |true=>exact (writeL_P (lockOkM_iff.1 hk) a v).s (by show (writeL l a v).reads.length≤_;rw[(writeL_img l a v).2.2.2.1];omega)
theorem access_write {code:List Int} (hb:code.length≤1048576):Ans ((r44 (code,())).bind fun r7=>(r45 r7.1).bind fun r8=>(r46 r7.1).bind fun r9=>(r26 (r8.1.1,(r9.1.1,()))).bind fun r10=>
  bif r10.1.1 then (bif (eqI (lkPpu r8.1.1).1 (lkPpu r7.1.1).1)then (bif cpuEq (lkCpu r8.1.1) (lkCpu r7.1.1)then some ((eqI (lenI (lkObs r8.1.1).2.2.1) (lenI (lkObs r7.1.1).2.2.1),()),())else some ((false,()),()))else some ((false,()),()))else some ((false,()),())) fun r=>r=((true,()),()):=by
 refine (drawLockWrite_ok hb).bind ?_
 rintro _ ⟨l,a,v,rfl,hs,hr⟩
 refine (Ans.of (implLockWrite_a l a v hs)).bind ?_
 rintro _ rfl
 refine (Ans.of (specLockWrite_a l a v hs)).bind ?_
 rintro _ rfl
 refine (Ans.of (implLockSame_ok _ (lockWriteA l a v).t (lockWrite_s a v hs hr))).bind ?_
 rintro _ rfl
 refine Ans.if_t (lockEq_self _) ?_
 have e:(lockWriteA l a v).ppu.T=l.ppu.T∧(lockWriteA l a v).cpu=l.cpu∧(lockWriteA l a v).reads=l.reads:=by
  unfold lockWriteA
  cases lockOkM l with
  |false=>exact ⟨rfl,rfl,rfl⟩
  |true=>exact ⟨writeL_t l a v,(writeL_img l a v).2.1,(writeL_img l a v).2.2.2.1⟩
 generalize lockWriteA l a v=w at e⊢
 obtain ⟨e1,e2,e3⟩:=e
 refine Ans.if_t (show eqI w.ppu.T l.ppu.T=true from eqI_t e1) (Ans.if_t (show cpuEq w.cpu.t l.cpu.t=true by rw[e2];exact cpuEq_self _) ?_)
 exact .ret (show ((eqI (lenI w.reads) (lenI l.reads),()),())=((true,()),()) by rw[e3,lenI_def,eqI_t rfl])
theorem plain7: ∀y:PTup i7,wfTs i7 y→ ∃b,r7 y=some ((true,()),b):=by
 rintro ⟨code,_⟩ ⟨hcode,_⟩
 refine ⟨(),of_ans ?_⟩
 unfold r7 m7
 refine (Ans.of (big_ok code)).bind ?_
 rintro _ rfl
 dsimp only
 refine few_or code () () fun hb=> ?_
 refine (drawLockRead_ok hb).bind ?_
 rintro _ ⟨l,a,rfl,hs,hr⟩
 refine (Ans.of (implLockRead_a l a hs (by omega))).bind ?_
 rintro _ rfl
 refine (Ans.of (specLockRead_a l a hs (by omega))).bind ?_
 rintro _ rfl
 refine Ans.if_f (neI_s _) ?_
 refine (Ans.of (implLockSame_ok _ (lockReadA l a).1.t (lockRead_s a hs hr))).bind ?_
 rintro _ rfl
 refine Ans.if_f (show (!(lockEq (lockReadA l a).1.t (lockReadA l a).1.t))=false by rw[lockEq_self];rfl) ?_
 refine (Ans.of (implRegion_a a)).bind ?_
 rintro _ rfl
 refine (Ans.of (specLockOk_ok l hs)).bind ?_
 rintro _ rfl
 refine Ans.cond (fun hk=> ?_) fun _=>access_write hb
 have hk:lockOkM l=true:=hk
 have e:(lockReadA l a).1=readL l a:=by unfold lockReadA;rw[hk,if_pos rfl]
 rw[e]
 have hlen:=readL_room l a
 have e2:(eqI ((readL l a).reads.length:Int) (wI ((l.reads.length:Int)+1)))=decide ((rgT a).1=2∨(rgT a).1=3∨(rgT a).1=4):=by
  rw[wI_id (by omega) (by omega)]
  by_cases h:(rgT a).1=2∨(rgT a).1=3∨(rgT a).1=4
  ·rw[if_pos h]at hlen
   rw[decide_eq_true h];exact eqI_t (by omega)
  ·rw[if_neg h]at hlen
   rw[decide_eq_false h];exact eqI_f (by omega)
 show Ans (bif eqI (rgT a).1 2 then (bif !(true==(eqI ((readL l a).reads.length:Int) (wI ((l.reads.length:Int)+1))))then _ else _)else bif eqI (rgT a).1 3 then (bif !(true==(eqI ((readL l a).reads.length:Int) (wI ((l.reads.length:Int)+1))))then _ else _)
  else bif !((eqI (rgT a).1 4)==(eqI ((readL l a).reads.length:Int) (wI ((l.reads.length:Int)+1))))then _ else _) _
 rw[e2]
 by_cases h2:(rgT a).1=2
 ·rw[decide_eq_true (.inl h2)]
  exact Ans.if_t (eqI_t h2) (Ans.if_f rfl (access_write hb))
 ·by_cases h3:(rgT a).1=3
  ·rw[decide_eq_true (.inr (.inl h3))]
   exact Ans.if_f (eqI_f h2) (Ans.if_t (eqI_t h3) (Ans.if_f rfl (access_write hb)))
  ·refine Ans.if_f (eqI_f h2) (Ans.if_f (eqI_f h3) (Ans.if_f ?_ (access_write hb)))
   by_cases h4:(rgT a).1=4
   ·rw[decide_eq_true (.inr (.inr h4)),eqI_t h4];rfl
   ·rw[decide_eq_false (by omega),eqI_f h4];rfl

end Go.Proofs.YtgpifihakjdfeaaGreat.Plain
