/- A law answers true. No condition. -/
import Derived.Test.YtgeodknaigdenaaGreatPI
set_option linter.unusedVariables false
set_option linter.unusedSimpArgs false
namespace Go.Proofs.YtgeodknaigdenaaGreat.Plain
open Go Go.Tev
theorem playM_app: ∀(a b:List Int) (s:SplitM),playM (a++b) s=((playM b (playM a s).1).1,(playM a s).2+(playM b (playM a s).1).2)
 | [],b,s=>by
  show playM b s=((playM b s).1,0+(playM b s).2)
  rw[Int.zero_add]
 |w::a,b,s=>by
  show ((playM (a++b) (pickGet s w)).1,flagN (pickIs s w)+(playM (a++b) (pickGet s w)).2)=((playM b (playM a (pickGet s w)).1).1,(flagN (pickIs s w)+(playM a (pickGet s w)).2)+(playM b (playM a (pickGet s w)).1).2)
  rw[playM_app a b (pickGet s w),Int.add_assoc]
theorem plain12: ∀y:PTup i12,wfTs i12 y→ ∃b,r12 y=some ((true,()),b):=by
 rintro ⟨code,_⟩ ⟨hcode,_⟩
 refine ⟨(),of_ans ?_⟩
 unfold r12 m12
 refine (Ans.of (big_ok code)).bind ?_
 rintro _ rfl
 dsimp only
 refine few_or code () () fun hb=> ?_
 refine (drawPlay_ok hb).bind ?_
 rintro _ ⟨s,l,rfl,hs,hr,hl⟩
 have hroom:Room s:=roomS hr
 refine (Ans.of (implPlay_a s l hs (by omega) (by omega))).bind ?_
 rintro _ rfl
 refine (Ans.of (specPlay_a s l hs (by omega) (by omega))).bind ?_
 rintro _ rfl
 dsimp only
 rw[neI_s,cond_false]
 cases hk:splitOk s.t
 ·have e:playA s l=(split0,-1):=by unfold playA;rw[hk,if_neg (by simp)]
  rw[e,ltI_t (by decide),cond_true]
  exact .ret rfl
 have h:=splitOk_iff.1 hk
 by_cases h3:3000<l.length
 ·have e:playA s l=(s.t,-1):=by unfold playA;rw[hk,if_pos rfl,if_pos h3]
  rw[e,ltI_t (show (-1:Int)<0 by decide),cond_true,lenI_def l,ltI_t (show (3000:Int)< (l.length:Int) by omega)]
  cases eqI (lenI s.t.2.2.1) 0
  ·rw[cond_false];exact .ret rfl
  ·rw[cond_true];exact .ret rfl
 have e: ∀(u:SplitM) (k:List Int),SplitP u→k.length≤3000→playA u k=((playM k u).1.t,(playM k u).2):=fun u k hu hk=>by unfold playA;rw[splitOk_iff.2 hu,if_pos rfl,if_neg (by omega)]
 rw[e s l h (by omega)]
 obtain ⟨p1,p2,p3,p4⟩:=playM_P (l:=l) h
 rw[ltI_f (by omega),cond_false]
 refine (at_ok code hb 1 (by omega) hcode.2).bind ?_
 rintro _ ⟨v,rfl,v0,v1⟩
 dsimp only
 have hw:wI (lenI l+1)=(l.length:Int)+1:=by rw[lenI_def];exact wI_id (by omega) (by omega)
 rw[hw,neI_t (by omega),cond_true]
 obtain ⟨t0,t1⟩:=tmod_b (a:=v) (n:=(l.length:Int)+1) v0 (by omega)
 generalize Int.tmod v ((l.length:Int)+1)=c at t0 t1⊢
 obtain ⟨c,rfl⟩: ∃n:Nat,c=n:=⟨c.toNat,by omega⟩
 rw[leI_t t0,cond_true,lenI_def,leI_t (by omega),cond_true,Int.toNat_natCast]
 have ht:(l.take c).length≤3000:=by rw[List.length_take];omega
 have hd:(l.drop c).length≤3000:=by rw[List.length_drop];omega
 refine (Ans.of (implPlay_a s (l.take c) hs (by omega) (by omega))).bind ?_
 rintro _ rfl
 dsimp only
 rw[cond_true,cond_true,e s _ h ht]
 obtain ⟨q1,q2,q3,q4⟩:=playM_P (l:=l.take c) h
 refine (Ans.of (implPlay_a (playM (l.take c) s).1 (l.drop c) (q1.s (by omega)) (by omega) (by omega))).bind ?_
 rintro _ rfl
 rw[e _ _ q1 hd]
 dsimp only
 have ha:=playM_app (l.take c) (l.drop c) s
 rw[List.take_append_drop]at ha
 obtain ⟨o1,o2,o3,o4⟩:=playM_P (l:=l.drop c) q1
 rw[wI_id (by omega) (by omega),ha,eqI_t rfl,cond_true]
 refine (Ans.of (sameSplit_self _ (o1.s (by omega)))).bind ?_
 rintro _ rfl
 exact .ret rfl

end Go.Proofs.YtgeodknaigdenaaGreat.Plain
