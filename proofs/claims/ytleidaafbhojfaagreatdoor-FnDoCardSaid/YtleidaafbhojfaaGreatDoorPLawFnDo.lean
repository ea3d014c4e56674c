/- A law answers true. No condition. -/
import Derived.Test.YtleidaafbhojfaaGreatDoorPN
set_option linter.unusedVariables false
set_option linter.unusedSimpArgs false
namespace Go.Proofs.YtleidaafbhojfaaGreatDoor.Plain
open Go Go.Tev
theorem ZgG {b:List Int} {t:Ji} (h:Cur b t):Ans (r65 ((b,t),())) (Dr b fun v:ByteArray=>v.size≤100):=by
 unfold r65 m65
 refine (Zjc h _ (by decide)).bind ?_
 rintro _ ⟨w,t1,rfl,hc,hw⟩
 have hw:ByteArray.size w≤100:=by
  revert hw
  revert w
  decide+kernel
 exact .ret ⟨_,_,rfl,hc,hw⟩
theorem Znm {b:List Int} (hb:b.length≤1048576):Ans (r13 (b,())) fun r=> ∃(s:Zc) (line:ByteArray),r=((s.t,(line,())),())∧(ZM s.t∧s.reads.length≤1000)∧line.size≤100:=by
 unfold r13 m13
 refine (Zpm b hb).bind ?_
 rintro _ ⟨t,rfl,hc⟩
 refine (Zmc hc).bind ?_
 rintro _ ⟨_,t1,rfl,hc1,s,rfl,hs,hr⟩
 refine (ZgG hc1).bind ?_
 rintro _ ⟨line,t2,rfl,_,hl⟩
 exact .ret ⟨s,line,rfl,⟨hs,hr⟩,hl⟩
theorem Zp1 {n:Nat} {l:List UInt8} (h:l.all YB=false):Lib.decDigits n≠l:=fun e=>by
 have:=Zne n
 rw[e,h]at this
 cases this
theorem Zq1 {s:Zc} {who:Int} (h:Jg s who=false):QI s who=s:=by
 unfold Jg at h
 unfold QI
 cases hm:KE s who with
 |none=>rfl
 |some v=>rw[hm]at h;cases h
theorem Zpa (s:Zc) (l:List UInt8) (h:(doM s l).2=noT∨(doM s l).2=VR∨(doM s l).2=[]∨l=ZmN∨l=Zmz∨l=K4):(doM s l).1=s:=by
 have pk: ∀who,(K7 (Jg s who)=noT∨K7 (Jg s who)=VR∨K7 (Jg s who)=[])→QI s who=s:=fun who h=>by
  cases hp:Jg s who with
  |false=>exact Zq1 hp
  |true=>rw[hp]at h;rcases h with h|h|h<;>cases h
 unfold doM at h⊢
 by_cases h0:l=[]∨l.head? =some 59
 ·rw[if_pos h0]
 rw[if_neg h0]at h⊢
 by_cases h1:l=WF
 ·rw[if_pos h1]at h⊢
  rcases h with h|h|h|h|h|h
  ·exact pk 0 (.inl h)
  ·exact pk 0 (.inr (.inl h))
  ·exact pk 0 (.inr (.inr h))
  all_goals (rw[h1]at h;cases h)
 rw[if_neg h1]at h⊢
 by_cases h2:l=Wi
 ·rw[if_pos h2]at h⊢
  rcases h with h|h|h|h|h|h
  ·exact pk 1 (.inl h)
  ·exact pk 1 (.inr (.inl h))
  ·exact pk 1 (.inr (.inr h))
  all_goals (rw[h2]at h;cases h)
 rw[if_neg h2]at h⊢
 by_cases h3:l=Ws
 ·rw[if_pos h3]at h⊢
  rcases h with h|h|h|h|h|h
  ·exact pk 2 (.inl h)
  ·exact pk 2 (.inr (.inl h))
  ·exact pk 2 (.inr (.inr h))
  all_goals (rw[h3]at h;cases h)
 rw[if_neg h3]at h⊢
 by_cases h4:l=Vz
 ·rw[if_pos h4]at h⊢
  rcases h with h|h|h|h|h|h
  ·cases h
  ·cases h
  ·cases h
  all_goals (rw[h4]at h;cases h)
 rw[if_neg h4]at h⊢
 cases hc:JX l with
 |none=>rfl
 |some p=>
  rw[hc]at h
  dsimp only at h⊢
  by_cases h5:p.1=Kt∧0≤Qu p.2∧Qu p.2≤999
  ·rw[if_pos h5]at h
   have nb: ∀w:List UInt8,JX w=none→l≠w:=fun w hw e=>by rw[e,hw]at hc;cases hc
   rcases h with h|h|h|h|h|h
   ·exact absurd h (Zp1 rfl)
   ·exact absurd h (Zp1 rfl)
   ·exact absurd h (Znf _)
   ·exact absurd h (nb _ rfl)
   ·exact absurd h (nb _ rfl)
   ·exact absurd h (nb _ rfl)
  ·rw[if_neg h5]
theorem plain4: ∀y:PTup i4,ZsJ i4 y→ ∃b,r4 y=some ((true,()),b):=by
 rintro ⟨code,_⟩ ⟨hcode,_⟩
 refine ⟨(),ZrT ?_⟩
 unfold r4 m4
 refine (Ans.of (Zrr code)).bind ?_
 rintro _ rfl
 dsimp only
 refine ZrE code () () fun hb=> ?_
 refine (Znm hb).bind ?_
 rintro _ ⟨s,line,rfl,⟨hs,hr⟩,hl⟩
 have hroom:ZA s:=ZsB hr
 have hl:line.data.toList.length≤4000000:=by rw[←Lib.size_eq];omega
 refine (Ans.of (Zfv s line hl hs (by omega))).bind ?_
 rintro _ rfl
 refine (Ans.of (Zoo s line hl hs (by omega))).bind ?_
 rintro _ rfl
 dsimp only
 rw[beq_self_eq_true,Bool.not_true,cond_false]
 refine (Ans.of (ZcG (spM (doA s line.data.toList).1) (Zsl hs (by omega) line.data.toList))).bind ?_
 rintro _ rfl
 dsimp only
 rw[Bool.not_true,cond_false]
 refine (Ans.of (KK s.t hs)).bind ?_
 rintro _ rfl
 dsimp only
 unfold doA
 cases hk:Qd s.t with
 |false=>
  refine .ret ?_
  rw[if_neg (by decide)]
  show ((((bz Zsh).toList==(bz Zsh).toList,()),()):(Bool×Unit)×Unit)=_
  rw[beq_self_eq_true]
 |true=>
  have h:Zq s:=JN.1 hk
  rw[Bool.not_true,cond_false,if_pos rfl]
  obtain ⟨hP,hr2⟩:=ZrA h line.data.toList
  have hs2:ZM (doM s line.data.toList).1.t:=hP.s (by omega)
  have hsame:=Zpa s line.data.toList
  have tail:Ans ((r8 (s.t,(bz K4,()))).bind fun v6=>(r8 (s.t,(bz Vz,()))).bind fun v7=>(r16 (s.t,())).bind fun v8=>
    bif (v6.1.2.1.toList==(bz Zsc).toList)==v8.1.1 then (bif v7.1.2.1.toList==(bz okT).toList then (r17 ((doM s line.data.toList).1.t,())).bind fun v9=>some (v9.1,())else some ((false,()),()))else some ((false,()),())) fun r=>r=((true,()),()):=by
   have ej:doA s K4=(s.t,ZmO (Kx s)):=by unfold doA;rw[hk,if_pos rfl];rfl
   have el:doA s Vz=((ZH s).t,okT):=by unfold doA;rw[hk,if_pos rfl];rfl
   refine (Ans.of (Zfv s (bz K4) (by decide) hs (by omega))).bind ?_
   rintro _ rfl
   refine (Ans.of (Zfv s (bz Vz) (by decide) hs (by omega))).bind ?_
   rintro _ rfl
   refine (Ans.of (ZbT s hs hroom)).bind ?_
   rintro _ rfl
   have ej2:doA s (bz K4).data.toList=(s.t,ZmO (Kx s)):=ej
   have el2:doA s (bz Vz).data.toList=((ZH s).t,okT):=el
   rw[ej2,el2]
   dsimp only
   have ey:((bz (ZmO (Kx s))).toList==(bz Zsc).toList)=Kx s:=by
    rw[eqW]
    cases Kx s<;>rfl
   rw[ey,beq_self_eq_true,cond_true,beq_self_eq_true,cond_true]
   refine (Ans.of (Vu _ hs2)).bind ?_
   rintro _ rfl
   rw[JN.2 hP]
   exact .ret rfl
  generalize doM s line.data.toList=g at hP hr2 hs2 hsame tail⊢
  obtain ⟨g,c⟩:=g
  dsimp only at hP hr2 hs2 hsame tail⊢
  rw[eqW,eqW,eqW,eqW,eqW,eqW]
  have tail2:g=s→Ans ((r14 (s.t,(g.t,()))).bind fun v6=>bif !v6.1.1 then some ((false,()),())else (r8 (s.t,(bz K4,()))).bind fun v6=>(r8 (s.t,(bz Vz,()))).bind fun v7=>(r16 (s.t,())).bind fun v8=>
    bif (v6.1.2.1.toList==(bz Zsc).toList)==v8.1.1 then (bif v7.1.2.1.toList==(bz okT).toList then (r17 (g.t,())).bind fun v9=>some (v9.1,())else some ((false,()),()))else some ((false,()),())) fun r=>r=((true,()),()):=fun e=>by
   subst e
   refine (Ans.of (ZcG g hs2)).bind ?_
   rintro _ rfl
   exact tail
  show Ans (bif decide (c=noT)then _ else (bif decide (c=VR)then _ else (bif decide (c=[])then _ else _))) _
  by_cases c1:c=noT
  ·rw[decide_eq_true c1,cond_true];exact tail2 (hsame (.inl c1))
  rw[decide_eq_false c1,cond_false]
  by_cases c2:c=VR
  ·rw[decide_eq_true c2,cond_true];exact tail2 (hsame (.inr (.inl c2)))
  rw[decide_eq_false c2,cond_false]
  by_cases c3:c=[]
  ·rw[decide_eq_true c3,cond_true];exact tail2 (hsame (.inr (.inr (.inl c3))))
  rw[decide_eq_false c3,cond_false]
  by_cases c4:line.data.toList=ZmN
  ·rw[decide_eq_true c4,cond_true];exact tail2 (hsame (.inr (.inr (.inr (.inl c4)))))
  rw[decide_eq_false c4,cond_false]
  by_cases c5:line.data.toList=Zmz
  ·rw[decide_eq_true c5,cond_true];exact tail2 (hsame (.inr (.inr (.inr (.inr (.inl c5))))))
  rw[decide_eq_false c5,cond_false]
  by_cases c6:line.data.toList=K4
  ·rw[decide_eq_true c6,cond_true];exact tail2 (hsame (.inr (.inr (.inr (.inr (.inr c6))))))
  rw[decide_eq_false c6,cond_false]
  exact tail

end Go.Proofs.YtleidaafbhojfaaGreatDoor.Plain
