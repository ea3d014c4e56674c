/- A law answers true. No condition. -/
import Derived.Test.YtjagjoolnoodaaaDoorPL
set_option linter.unusedVariables false
set_option linter.unusedSimpArgs false
namespace Go.Proofs.YtjagjoolnoodaaaDoor.Plain
open Go Go.Tev
theorem frR_ends (s:ByteArray):(frR s=([],false))∨ ∃g,frR s=(g,true)∧frT g=s∧g.length≤s.data.toList.length:=by
 unfold frR
 split
 ·exact .inl rfl
 ·split
  ·rename_i h
   exact .inr ⟨_,rfl,h,by have:=shS_len (btsI s);rw[btsI_len]at this;exact this⟩
  ·exact .inl rfl
theorem plain4: ∀y:PTup i4,wfTs i4 y→ ∃b,r4 y=some ((true,()),b):=by
 rintro ⟨code,_⟩ ⟨hcode,_⟩
 refine ⟨(),of_ans ?_⟩
 unfold r4 m4
 refine (Ans.of (big_ok code)).bind ?_
 rintro _ rfl
 dsimp only
 refine few_or code () () fun hb=> ?_
 refine (drawFrameText_ok hb).bind ?_
 rintro _ ⟨l,rfl,hl⟩
 refine (Ans.of (implFrameText_ok l (by omega))).bind ?_
 rintro _ rfl
 refine (Ans.of (specFrameText_ok l (by omega))).bind ?_
 rintro _ rfl
 have hs:=frT_size l hl
 dsimp only
 rw[beq_self_eq_true,Bool.not_true,cond_false,baEq]
 have tone: ∀(z:List Int),z.length≤30→ ∀(x:Option ((Bool×Unit)×Unit)),Ans x (fun r=>r=((true,()),()))→Ans (bif (strOf (z.map toneSign)).toList==(strOf (z.map toneSign)).toList then (r18 (z,())).bind fun u13=>bif eqI ((u13.1.1.size:Nat):Int) (lenI z)then x else some ((false,()),())else some ((false,()),())) (fun r=>r=((true,()),())):=fun z hz x hx=>by
  rw[beq_self_eq_true,cond_true]
  refine (Ans.of (implToneText_ok z (by omega))).bind ?_
  rintro _ rfl
  dsimp only
  rw[strOf_size,List.length_map,lenI_def,eqI_t rfl,cond_true]
  exact hx
 have rest:Ans ((r14 (code,())).bind fun u4=>(r12 u4.1).bind fun u5=>(r15 u4.1).bind fun u6=>bif !(u5.1.2.1==u6.1.2.1)then some ((false,()),())else (r16 (code,())).bind fun u7=>(r17 (code,())).bind fun u8=>(r18 u7.1).bind fun u9=>(r19 u7.1).bind fun u10=>
   bif u9.1.1.toList==u10.1.1.toList then (r18 u7.1).bind fun u11=>bif eqI ((u11.1.1.size:Nat):Int) (lenI u7.1.1)then (r7 (u8.1.1,())).bind fun u12=>(r5 (u8.1.1,())).bind fun u13=>bif u12.1.1.toList==u13.1.1.toList then (r7 (u8.1.1,())).bind fun u14=>(r20 (u8.1.1,())).bind fun u15=>
    bif (!(u14.1.1.toList==(bz []).toList))==u15.1.1 then (bif !u5.1.2.1 then (bif eqI (lenI u5.1.1) 0 then some ((true,()),())else bif u5.1.2.1 then (r10 (u5.1.1,())).bind fun u16=>some ((u16.1.1.toList==u4.1.1.toList,()),())else some ((false,()),()))
     else bif u5.1.2.1 then (r10 (u5.1.1,())).bind fun u16=>some ((u16.1.1.toList==u4.1.1.toList,()),())else some ((false,()),()))else some ((false,()),())else some ((false,()),())else some ((false,()),())else some ((false,()),())) (fun r=>r=((true,()),())):=by
  refine (drawFrameRead_ok hb).bind ?_
  rintro _ ⟨s,rfl,hz⟩
  have hz2:s.data.toList.length≤1000:=by rw[←Lib.size_eq];exact hz
  refine (Ans.of (implFrameRead_ok s (by omega))).bind ?_
  rintro _ rfl
  refine (Ans.of (specFrameRead_ok s (by omega))).bind ?_
  rintro _ rfl
  dsimp only
  rw[beq_self_eq_true,Bool.not_true,cond_false]
  refine (drawToneText_ok hb).bind ?_
  rintro _ ⟨z,rfl,hzl⟩
  refine (drawCpuText_ok hb).bind ?_
  rintro _ ⟨c,rfl⟩
  refine (Ans.of (implToneText_ok z (by omega))).bind ?_
  rintro _ rfl
  refine (Ans.of (specToneText_ok z (by omega))).bind ?_
  rintro _ rfl
  refine tone z hzl _ ?_
  refine (Ans.of (implCpuText_ok c)).bind ?_
  rintro _ rfl
  refine (Ans.of (specCpuText_ok c)).bind ?_
  rintro _ rfl
  dsimp only
  rw[beq_self_eq_true,cond_true]
  refine (Ans.of (implCpuText_ok c)).bind ?_
  rintro _ rfl
  refine (Ans.of (implCpuOk_ok c)).bind ?_
  rintro _ rfl
  dsimp only
  rw[strEq _ [] (bz []) rfl]
  have e:decide ((bz (cpuTextA c)).data.toList=[])= !cpuOk c:=cpuTextA_ne c
  rw[e,Bool.not_not,beq_self_eq_true,cond_true]
  rcases frR_ends s with h| ⟨g,h,hg,hgl⟩
  ·rw[h]
   exact .ret rfl
  ·rw[h]
   dsimp only
   rw[Bool.not_true,cond_false,cond_true]
   refine (Ans.of (implFrameText_ok g (by omega))).bind ?_
   rintro _ rfl
   dsimp only
   rw[hg,beq_self_eq_true]
   exact .ret rfl
 by_cases h0:frT l=bz []
 ·rw[decide_eq_true h0,Bool.not_true,cond_false]
  exact rest
 ·rw[decide_eq_false h0,Bool.not_false,cond_true]
  refine (Ans.of (implFrameRead_ok (frT l) (by rw[←Lib.size_eq];omega))).bind ?_
  rintro _ rfl
  rw[frR_of h0]
  dsimp only
  rw[Bool.not_true,cond_false]
  refine (Ans.of (sameInts_self l (by omega))).bind ?_
  rintro _ rfl
  dsimp only
  rw[Bool.not_true,cond_false]
  exact rest

end Go.Proofs.YtjagjoolnoodaaaDoor.Plain
