/- A law answers true. No condition. -/
import Derived.Test.YtgpifihakjdfeaaGreatPJ
set_option linter.unusedVariables false
set_option linter.unusedSimpArgs false
namespace Go.Proofs.YtgpifihakjdfeaaGreat.Plain
open Go Go.Tev
theorem times_loop1 (u:SplitM) (h: ∀x,x∈u.pic.list→u.pic.ppu.T≤x.1∧x.1≤u.T) (hl:u.pic.list.length≤16): ∀(k i:Nat),i≤u.pic.list.length→u.pic.list.length-i<k→
  n10_1 r14 r12 r13 r15 L10_0 k () (u.t,()) ((i:Int),())=some (Sum.inl ((u.pic.list.length:Int),()),(u.t,()))
 |0,_,_,h=>absurd h (by omega)
 |k+1,i,hi,hk=>by
  show (bif ltI (i:Int) (lenI u.pic.list)then (bif leI 0 (i:Int)then (bif ltI (i:Int) (lenI u.pic.list)then (bif ltI (rdE .t u.pic.list (i:Int)).1 u.pic.ppu.T then _ else bif leI 0 (i:Int)then (bif ltI (i:Int) (lenI u.pic.list)then (bif ltI u.T (rdE .t u.pic.list (i:Int)).1 then _ else _)else _)else _)else _)else _)else some (Sum.inl ((i:Int),()),(u.t,())))=_
  by_cases hc:i<u.pic.list.length
  ·have e:rdE .t u.pic.list (i:Int)=u.pic.list[i]:=rdE_nat .t u.pic.list i hc
   obtain ⟨h1,h2⟩:=h _ (List.getElem_mem hc)
   rw[e,lenI_def,ltI_t (show (i:Int)< (u.pic.list.length:Int) by omega),leI_t (show (0:Int)≤(i:Int) by omega),ltI_f (show¬u.pic.list[i].1<u.pic.ppu.T by omega),ltI_f (show¬u.T<u.pic.list[i].1 by omega)]
   simp only[cond_true,cond_false]
   rw[wI_succ (by omega)]
   exact times_loop1 u h hl k (i+1) (by omega) (by omega)
  ·obtain rfl:i=u.pic.list.length:=by omega
   rw[lenI_def,ltI_f (by omega),cond_false]
theorem times_loop0 (u:SplitM) (h: ∀x,x∈u.snd.list→u.snd.apu.T≤x.1∧x.1≤u.T) (hl:u.snd.list.length≤16): ∀(k i:Nat),i≤u.snd.list.length→u.snd.list.length-i<k→
  n10_0 r14 r12 r13 r15 k () (u.t,()) ((i:Int),())=some (Sum.inl ((u.snd.list.length:Int),()),(u.t,()))
 |0,_,_,h=>absurd h (by omega)
 |k+1,i,hi,hk=>by
  show (bif ltI (i:Int) (lenI u.snd.list)then (bif leI 0 (i:Int)then (bif ltI (i:Int) (lenI u.snd.list)then (bif ltI (rdE .t u.snd.list (i:Int)).1 u.snd.apu.T then _ else bif leI 0 (i:Int)then (bif ltI (i:Int) (lenI u.snd.list)then (bif ltI u.T (rdE .t u.snd.list (i:Int)).1 then _ else _)else _)else _)else _)else _)else some (Sum.inl ((i:Int),()),(u.t,())))=_
  by_cases hc:i<u.snd.list.length
  ·have e:rdE .t u.snd.list (i:Int)=u.snd.list[i]:=rdE_nat .t u.snd.list i hc
   obtain ⟨h1,h2⟩:=h _ (List.getElem_mem hc)
   rw[e,lenI_def,ltI_t (show (i:Int)< (u.snd.list.length:Int) by omega),leI_t (show (0:Int)≤(i:Int) by omega),ltI_f (show¬u.snd.list[i].1<u.snd.apu.T by omega),ltI_f (show¬u.T<u.snd.list[i].1 by omega)]
   simp only[cond_true,cond_false]
   rw[wI_succ (by omega)]
   exact times_loop0 u h hl k (i+1) (by omega) (by omega)
  ·obtain rfl:i=u.snd.list.length:=by omega
   rw[lenI_def,ltI_f (by omega),cond_false]
theorem plain10: ∀y:PTup i10,wfTs i10 y→ ∃b,r10 y=some ((true,()),b):=by
 rintro ⟨code,_⟩ ⟨hcode,_⟩
 refine ⟨(),of_ans ?_⟩
 unfold r10 m10
 refine (Ans.of (big_ok code)).bind ?_
 rintro _ rfl
 dsimp only
 refine few_or code () () fun hb=> ?_
 refine (drawPlayed_ok hb).bind ?_
 rintro _ ⟨f,p,cap,l,rfl,hf,hp,hc,hl⟩
 have hP:=newS_P hf hp hc
 have hs:splitOkS (newS f p cap).t:=hP.s (Nat.zero_le _)
 have hr0:(newS f p cap).reads.length≤1048576:=Nat.zero_le _
 obtain ⟨e,hu,hst,hr,hi,hpd,hn0,hn1⟩:=played_P hf hp hc hl
 refine (Ans.of (implPlay_a (newS f p cap) l hs hr0 (by omega))).bind ?_
 rintro _ rfl
 refine (Ans.of (specPlay_a (newS f p cap) l hs hr0 (by omega))).bind ?_
 rintro _ rfl
 rw[e]
 dsimp only
 rw[neI_s,cond_false]
 generalize (playM l (newS f p cap)).2=n at hn0 hn1⊢
 have hU:=hu.sim.p
 generalize hq:(playM l (newS f p cap)).1=u at*
 have hus:splitOkS u.t:=hU.s (by omega)
 have hroom:Room u:=by unfold Room;omega
 have c1:=hU.pic.ring.len
 have c2:=hU.snd.ring.len
 have c3:=hU.pic.ring.c1
 have c4:=hU.snd.ring.c1
 have p1:=hU.pt
 have p2:=hU.st
 refine Ans.if_f (show ltI u.T u.pic.ppu.T=false from ltI_f (by omega)) (Ans.if_f (show ltI u.T u.snd.apu.T=false from ltI_f (by omega)) (Ans.if_f (show ltI u.pic.cap (u.pic.list.length:Int)=false from ltI_f (by omega)) (Ans.if_f (show ltI u.snd.cap (u.snd.list.length:Int)=false from ltI_f (by omega)) ?_)))
 refine (Ans.of (times_loop1 u (fun x hx=>⟨hU.pic.lo x hx,hU.pl x hx⟩) (by omega) fuel 0 (Nat.zero_le _) (by have:=fuel_big;omega))).bind ?_
 rintro _ rfl
 refine (Ans.of (times_loop0 u (fun x hx=>⟨hU.snd.lo x hx,hU.sl x hx⟩) (by omega) fuel 0 (Nat.zero_le _) (by have:=fuel_big;omega))).bind ?_
 rintro _ rfl
 refine Ans.if_t (leI_t hn0) (.ret (show ((leI n (l.length:Int),()),())=((true,()),()) by rw[leI_t hn1]))

end Go.Proofs.YtgpifihakjdfeaaGreat.Plain
