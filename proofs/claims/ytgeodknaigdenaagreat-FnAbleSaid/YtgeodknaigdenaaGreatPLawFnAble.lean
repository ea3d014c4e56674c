/- A law answers true. No condition. -/
import Derived.Test.YtgeodknaigdenaaGreatPI
set_option linter.unusedVariables false
set_option linter.unusedSimpArgs false
namespace Go.Proofs.YtgeodknaigdenaaGreat.Plain
open Go Go.Tev
theorem ableLaw_loop (s:SplitM) (hs:splitOkS s.t) (hroom:Room s): ∀(k:Nat) (i:Int),-1≤i→i≤5→5-i<k→Ans (n10_0 r54 r57 r20 r55 r58 r56 r53 r29 k (ableA s,()) (s.t,()) (i,())) fun r=> ∃i':Int,r=(Sum.inl (i',()),(s.t,()))
 |0,_,_,h1,h2=>absurd h2 (by omega)
 |k+1,i,h0,h1,h2=>by
  show Ans (bif ltI i 5 then _ else some (Sum.inl (i,()),(s.t,()))) _
  by_cases hi:i<5
  ·rw[ltI_t hi,cond_true]
   refine (Ans.of (implPick_a s i hs hroom)).bind ?_
   rintro _ rfl
   have:=ableA_len s
   refine (Ans.of (withinL_ok (ableA s) i (by omega))).bind ?_
   rintro _ rfl
   dsimp only
   rw[able_mem,beq_self_eq_true,Bool.not_true,cond_false,wI_id (x:=i+1) (by omega) (by omega)]
   exact ableLaw_loop s hs hroom k (i+1) (by omega) (by omega) (by omega)
  ·rw[ltI_f hi,cond_false]
   exact .ret ⟨_,rfl⟩
theorem plain10: ∀y:PTup i10,wfTs i10 y→ ∃b,r10 y=some ((true,()),b):=by
 rintro ⟨code,_⟩ ⟨hcode,_⟩
 refine ⟨(),of_ans ?_⟩
 unfold r10 m10
 refine (Ans.of (big_ok code)).bind ?_
 rintro _ rfl
 dsimp only
 refine few_or code () () fun hb=> ?_
 refine (drawAble_ok hb).bind ?_
 rintro _ ⟨s,rfl,hs,hr⟩
 have hroom:Room s:=roomS hr
 refine (Ans.of (implAble_a s hs hroom)).bind ?_
 rintro _ rfl
 refine (Ans.of (specAble_a s hs hroom)).bind ?_
 rintro _ rfl
 have hl:=ableA_len s
 refine (Ans.of (sameInts_self (ableA s) (by omega))).bind ?_
 rintro _ rfl
 dsimp only
 rw[Bool.not_true,cond_false]
 refine (ableLaw_loop s hs hroom fuel (-1) (by omega) (by omega) (by have:=fuel_big;omega)).bind ?_
 rintro _ ⟨i,rfl⟩
 dsimp only[sumElim]
 have e0:splitOk s.t=false→ableA s=[]:=fun hk=>by
  have e: ∀who,pickA s who=(split0,false):=fun who=>by unfold pickA;rw[hk,if_neg (by simp)]
  unfold ableA
  rw[e,e,e]
  rfl
 have e1:=specSplitOk_ok s.t hs
 generalize ableA s=l at e0⊢
 generalize splitOk s.t=k at e0 e1
 clear hs hroom hr hl
 obtain ⟨img,pads,⟨ram,bank⟩,⟨ca,cx,cs,cpc,cz,cn,cc,ci⟩,⟨held,shift⟩,T,nmi,ctrl,known,knownAt,steps,reads,⟨⟨pT,pc,ps,pa,pp,pb,ptb,pds⟩,pcap,pl,pf⟩,⟨⟨sT,sp,sc,sb,sl,sa,si⟩,scap,slist,ss⟩⟩:=s
 refine (Ans.of e1).bind ?_
 rintro _ rfl
 dsimp only
 cases k
 ·rw[cond_false,e0 rfl]
  exact .ret rfl
 ·rw[cond_true]
  exact .ret rfl

end Go.Proofs.YtgeodknaigdenaaGreat.Plain
