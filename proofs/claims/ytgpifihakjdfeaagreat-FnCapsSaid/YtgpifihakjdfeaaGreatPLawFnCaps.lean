/- A law answers true. No condition. -/
import Derived.Test.YtgpifihakjdfeaaGreatPJ
set_option linter.unusedVariables false
set_option linter.unusedSimpArgs false
namespace Go.Proofs.YtgpifihakjdfeaaGreat.Plain
open Go Go.Tev
theorem plain6: ∀y:PTup i6,wfTs i6 y→ ∃b,r6 y=some ((true,()),b):=by
 rintro ⟨code,_⟩ ⟨hcode,_⟩
 refine ⟨(),of_ans ?_⟩
 unfold r6 m6
 refine (Ans.of (big_ok code)).bind ?_
 rintro _ rfl
 dsimp only
 refine few_or code () () fun hb=> ?_
 refine (drawSplitNew_ok hb).bind ?_
 rintro _ ⟨f,p,cap,rfl,hf,hp⟩
 refine (Ans.of (implSplitNew_a f p 1 hf (by omega))).bind ?_
 rintro _ rfl
 refine (Ans.of (implSplitNew_a f p 16 hf (by omega))).bind ?_
 rintro _ rfl
 refine (Ans.of (specSplitNew_a f p 1 hf (by omega))).bind ?_
 rintro _ rfl
 have e16:newAble f p 16=newAble f p 1:=by unfold newAble;rfl
 unfold splitNewA
 rw[e16]
 cases hk:newAble f p 1
 ·exact .ret rfl
 obtain ⟨h1,h2,_⟩:=newAble_iff.1 hk
 have a1:(1:Int)≤1∧(1:Int)≤16:=by omega
 have a2:(1:Int)≤16∧(16:Int)≤16:=by omega
 refine Ans.if_f rfl (Ans.if_f rfl (Ans.if_f rfl ?_))
 have P1:=newS_P h1 h2 a1
 have P2:=newS_P h1 h2 a2
 refine (Ans.of (implFair_a (newS f p 1) 40 (P1.s (Nat.zero_le _)) (Nat.zero_le _))).bind ?_
 rintro _ rfl
 refine (Ans.of (implFair_a (newS f p 16) 40 (P2.s (Nat.zero_le _)) (Nat.zero_le _))).bind ?_
 rintro _ rfl
 obtain ⟨b1,b2,b3⟩:=born_fair (n:=40) (born_new h1 h2 a1) (by show 7*((0:Int)+(40:Nat))≤20000;omega)
 obtain ⟨c1,c2,c3⟩:=born_fair (n:=40) (born_new h1 h2 a2) (by show 7*((0:Int)+(40:Nat))≤20000;omega)
 obtain ⟨g1,g2,g3⟩:=fairM_P (n:=40) P1
 obtain ⟨k1,k2,k3⟩:=fairM_P (n:=40) P2
 obtain ⟨i1,i2⟩:=fairM_img 40 (newS f p 1)
 obtain ⟨j1,j2⟩:=fairM_img 40 (newS f p 16)
 have e1:=fairA_n (n:=40) P1 (by omega)
 have e2:=fairA_n (n:=40) P2 (by omega)
 rw[show ((40:Nat):Int)=40 from rfl]at e1 e2
 rw[e1,e2,b2,c2]
 have b3:(fairM 40 (newS f p 1)).1.steps=0+((40:Nat):Int):=b3
 have c3:(fairM 40 (newS f p 16)).1.steps=0+((40:Nat):Int):=c3
 have g2:(fairM 40 (newS f p 1)).1.reads.length≤0+40:=g2
 have k2:(fairM 40 (newS f p 16)).1.reads.length≤0+40:=k2
 have i1:(fairM 40 (newS f p 1)).1.img=f:=i1
 have i2:(fairM 40 (newS f p 1)).1.pads=p:=i2
 have j1:(fairM 40 (newS f p 16)).1.img=f:=j1
 have j2:(fairM 40 (newS f p 16)).1.pads=p:=j2
 clear e1 e2 e16
 generalize (fairM 40 (newS f p 1)).1=u at*
 generalize (fairM 40 (newS f p 16)).1=v at*
 refine Ans.if_t (eqI_t rfl) ?_
 refine (Ans.of (implLevel_a u (g1.s (by omega)) (by unfold Room;omega))).bind ?_
 rintro _ rfl
 rw[levelA_P g1]
 refine (Ans.of (implAsLock_ok (levelM u).t ((levelM_P g1).1.s (by show u.reads.length≤_;omega)))).bind ?_
 rintro _ rfl
 rw[asLock_level g1]
 refine (Ans.of (implLevel_a v (k1.s (by omega)) (by unfold Room;omega))).bind ?_
 rintro _ rfl
 rw[levelA_P k1]
 refine (Ans.of (implAsLock_ok (levelM v).t ((levelM_P k1).1.s (by show v.reads.length≤_;omega)))).bind ?_
 rintro _ rfl
 rw[asLock_level k1,←born_same b1 c1 (by rw[i1,j1]) (by rw[i2,j2]) (by omega)]
 refine (Ans.of (implLockSame_ok (lockOf u).t (lockOf u).t (lockOf_S b1 (by omega)))).bind ?_
 rintro _ rfl
 rw[lockEq_self]
 exact .ret rfl

end Go.Proofs.YtgpifihakjdfeaaGreat.Plain
