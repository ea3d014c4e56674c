/- A law answers true. No condition. -/
import Derived.Test.YtgpifihakjdfeaaGreatPJ
set_option linter.unusedVariables false
set_option linter.unusedSimpArgs false
namespace Go.Proofs.YtgpifihakjdfeaaGreat.Plain
open Go Go.Tev
theorem alive_loop (l:List Int) (hl:l.length≤810): ∀(k i:Nat) (s:SplitM),i≤l.length→l.length-i<k→BornP s→s.steps≤i→s.reads.length≤i→
  Ans (n11_0 r52 r53 r50 r16 r12 r13 r51 k (l,()) (s.t,()) ((i:Int),())) fun r=> ∃(i':Int) (s':SplitM),r=(Sum.inl (i',()),(s'.t,()))∧SplitP s'∧s'.reads.length≤1000
 |0,_,_,_,h,_,_,_=>absurd h (by omega)
 |k+1,i,s,hi,hk,hb,hst,hr=>by
  have hP:=hb.sim.p
  have hs:splitOkS s.t:=hP.s (by omega)
  have hroom:Room s:=by unfold Room;omega
  by_cases hc:i<l.length
  ·refine Ans.if_t (show ltI (i:Int) (lenI l)=true by rw[lenI_def];exact ltI_t (by omega)) (Ans.if_t (leI_t (by omega)) (Ans.if_t (show ltI (i:Int) (lenI l)=true by rw[lenI_def];exact ltI_t (by omega)) ?_))
   generalize hw:rdE .i l (i:Int)=who
   refine (Ans.of (implPick_a s who hs hroom)).bind ?_
   rintro _ rfl
   refine Ans.if_t (leI_t (by omega)) (Ans.if_t (show ltI (i:Int) (lenI l)=true by rw[lenI_def];exact ltI_t (by omega)) ?_)
   refine (Ans.of (specPick_a s who hs hroom)).bind ?_
   rintro _ rfl
   refine Ans.if_f (show (!((pickA s who).2==(pickA s who).2))=false by rw[beq_self_eq_true];rfl) ?_
   obtain ⟨a,b⟩:=born_pick hb who
   obtain ⟨c,d⟩:=pickGet_P hP who
   have e:(pickA s who).1=(pickGet s who).t:=by unfold pickA;rw[splitOk_iff.2 hP,if_pos rfl]
   rw[e]
   generalize pickGet s who=v at*
   have hvs:splitOkS v.t:=c.s (by omega)
   have hvroom:Room v:=by unfold Room;omega
   have hgo:Ans (n11_0 r52 r53 r50 r16 r12 r13 r51 k (l,()) (v.t,()) (wI ((i:Int)+1),())) fun r=> ∃(i':Int) (s':SplitM),r=(Sum.inl (i',()),(s'.t,()))∧SplitP s'∧s'.reads.length≤1000:=by
    rw[wI_succ (by omega)]
    exact alive_loop l hl k (i+1) v (by omega) (by omega) a (by omega) (by omega)
   refine Ans.cond (fun _=>hgo) fun _=> ?_
   refine (Ans.of (implAble_a v hvs hvroom)).bind ?_
   rintro _ rfl
   have hne:(ableA v).length≠0:=by
    rw[ableA_of c]
    have ht:=a.time
    rcases able_or c with h|h|h| ⟨_,_,h⟩
    ·rw[h,if_pos rfl];simp
    ·rw[h,if_pos rfl];simp
    ·rw[h,if_pos rfl];simp
    ·omega
   refine Ans.if_f (show eqI (lenI (ableA v)) 0=false by rw[lenI_def];exact eqI_f (by omega)) ?_
   refine (Ans.of (implJudgeAlive_a v hvs hvroom)).bind ?_
   rintro _ rfl
   exact Ans.if_f (show (!aliveA v)=false by rw[alive_any c];rfl) hgo
  ·exact Ans.if_f (show ltI (i:Int) (lenI l)=false by rw[lenI_def];exact ltI_f (by omega)) (.ret ⟨_,s,rfl,hP,by omega⟩)
theorem plain11: ∀y:PTup i11,wfTs i11 y→ ∃b,r11 y=some ((true,()),b):=by
 rintro ⟨code,_⟩ ⟨hcode,_⟩
 refine ⟨(),of_ans ?_⟩
 unfold r11 m11
 refine (Ans.of (big_ok code)).bind ?_
 rintro _ rfl
 dsimp only
 refine few_or code () () fun hb=> ?_
 refine (drawPlayed_ok hb).bind ?_
 rintro _ ⟨f,p,cap,l,rfl,hf,hp,hc,hl⟩
 refine (alive_loop l hl fuel 0 (newS f p cap) (Nat.zero_le _) (by have:=fuel_big;omega) (born_new hf hp hc) (Int.le_refl _) (Nat.le_refl _)).bind ?_
 rintro _ ⟨i,v,rfl,hv,hr⟩
 refine (Ans.of (implSplitOk_ok v.t (hv.s (by omega)))).bind ?_
 rintro _ rfl
 rw[splitOk_iff.2 hv]
 exact .ret rfl

end Go.Proofs.YtgpifihakjdfeaaGreat.Plain
