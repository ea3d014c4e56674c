/- Plain laws of the printed functions: Desk, Desk2. No condition beyond those that each lemma states. -/
import Derived.Test.YtleidaafbhojfaaGreatDoorPM
set_option linter.unusedVariables false
set_option linter.unusedSimpArgs false
namespace Go.Proofs.YtleidaafbhojfaaGreatDoor.Plain
open Go Go.Tev
abbrev ZmN:List UInt8:=[119,97,105,116]
abbrev Zmz:List UInt8:=[115,104,111,119]
abbrev Zh3:List UInt8:=[102,114,97,109,101,115]
abbrev ZeU:List UInt8:=[115,97,109,112,108,101,115]
abbrev K4:List UInt8:=[106,117,100,103,101]
abbrev WF:List UInt8:=[99,112,117]
abbrev Wi:List UInt8:=[112,105,99,116,117,114,101]
abbrev Ws:List UInt8:=[115,111,117,110,100]
abbrev Vz:List UInt8:=[108,101,118,101,108]
abbrev Kt:List UInt8:=[102,97,105,114]
abbrev okT:List UInt8:=[111,107]
abbrev noT:List UInt8:=[110,111]
abbrev Zsc:List UInt8:=[121,101,115]
abbrev VR:List UInt8:=[119,104,97,116]
abbrev Zsh:List UInt8:=[98,97,100]
abbrev Zsu:List UInt8:=[110,111,110,101]
abbrev ZsC:List UInt8:=[114,111,111,109]
abbrev Zsy:List UInt8:=[111,118,101,114]
def K7 (b:Bool):List UInt8:=bif b then okT else noT
def ZmO (b:Bool):List UInt8:=bif b then Zsc else noT
def ZpU (n:Int):List UInt8:=if n=0 then Zsu else if n=1 then Wi else if n=2 then Ws else if n=5 then Zsy else ZsC
theorem ZoP (s:Zc):QG s=0∨QG s=1∨QG s=2∨QG s=3∨QG s=4∨QG s=5:=by
 have o: ∀n,YK s n=0∨YK s n=5:=fun n=>by unfold YK;split<;>omega
 have o1:=o 7
 have o2:=o (Qm (opS s))
 unfold QG
 repeat' split
 all_goals omega
def Xh (d:List UInt8) (s:Zc) (l:List UInt8):List UInt8:=
 if l=ZmN then ZpU (QG s)
 else if l=Zmz then Vs s.cpu.t
 else if l=Zh3 then Lib.decDigits s.pic.frames.length
 else if l=ZeU then Lib.decDigits s.snd.samples.length
 else if l=K4 then ZmO (Kx s)
 else d
def doM (s:Zc) (l:List UInt8):Zc×List UInt8:=
 if l=[]∨l.head? =some 59 then (s,[])
 else if l=WF then (QI s 0,K7 (Jg s 0))
 else if l=Wi then (QI s 1,K7 (Jg s 1))
 else if l=Ws then (QI s 2,K7 (Jg s 2))
 else if l=Vz then (ZH s,okT)
 else match JX l with
  |none=>(s,Xh VR s l)
  |some p=>if p.1=Kt∧0≤Qu p.2∧Qu p.2≤999 then ((QA (QE (Qu p.2)) s).1,Lib.decDigits (QA (QE (Qu p.2)) s).2)else (s,Xh VR s l)
theorem ZrA {s:Zc} (h:Zq s) (l:List UInt8):Zq (doM s l).1∧(doM s l).1.reads.length≤s.reads.length+999:=by
 have same:Zq s∧s.reads.length≤s.reads.length+999:=⟨h,by omega⟩
 have pk: ∀who,Zq (QI s who)∧(QI s who).reads.length≤s.reads.length+999:=fun who=>by
  obtain ⟨a,b⟩:=ZfU h who
  exact ⟨a,by omega⟩
 unfold doM
 split
 ·exact same
 split
 ·exact pk 0
 split
 ·exact pk 1
 split
 ·exact pk 2
 split
 ·exact ⟨(Ux h).1,by show (ZH s).reads.length≤_;unfold ZH;exact Nat.le_add_right _ _⟩
 split
 ·exact same
 ·rename_i p _
  split
  ·rename_i hp
   obtain ⟨a,b,_⟩:=ZhZ (n:=QE (Qu p.2)) h
   have:QE (Qu p.2)≤999:=by unfold QE;split<;>omega
   exact ⟨a,by dsimp only;omega⟩
  ·exact same
def doA (s:Zc) (l:List UInt8):Tup Qi×List UInt8:=if Qd s.t then ((doM s l).1.t,(doM s l).2)else (s.t,Zsh)
theorem Znf (n:Nat):Lib.decDigits n≠ []:=by
 rw[Zfi]
 split
 ·simp
 ·simp
theorem ZpV (n:Int):ZpU n≠ []:=by
 unfold ZpU
 repeat' split
 all_goals simp
theorem ZpY (b:Bool):ZmO b≠ []:=by cases b<;>simp[ZmO]
theorem Zrx {s:Zc} (h:Zq s):Yj s.cpu.t=true:=by
 have:=JN.2 h
 unfold Qd Zbc at this
 simp only[Bool.and_eq_true]at this
 first
  |exact this.1.2.2.1
  |exact this.2.2.2.1
  |exact this.2.2.1
theorem Zqu {s:Zc} (h:Zq s):Vs s.cpu.t≠ []:=fun e=>by
 have:=Zj7 s.cpu.t
 rw[decide_eq_true e,Zrx h]at this
 cases this
theorem Zrq (s:Zc) (h:Zq s) (l:List UInt8):(Xh [] s l=[]∧Xh VR s l=VR)∨(Xh [] s l≠ []∧doM s l=(s,Xh [] s l)):=by
 by_cases h1:l=ZmN
 ·subst h1;exact .inr ⟨ZpV _,rfl⟩
 by_cases h2:l=Zmz
 ·subst h2;exact .inr ⟨Zqu h,rfl⟩
 by_cases h3:l=Zh3
 ·subst h3;exact .inr ⟨Znf _,rfl⟩
 by_cases h4:l=ZeU
 ·subst h4;exact .inr ⟨Znf _,rfl⟩
 by_cases h5:l=K4
 ·subst h5;exact .inr ⟨ZpY _,rfl⟩
 left
 unfold Xh
 rw[if_neg h1,if_neg h2,if_neg h3,if_neg h4,if_neg h5,if_neg h1,if_neg h2,if_neg h3,if_neg h4,if_neg h5]
 exact ⟨rfl,rfl⟩
theorem Zi1 (s:Zc) (line:ByteArray) (h:Zq s) (hs:ZM s.t) (hr:ZA s):r45 (s.t,(line,()))=some ((bz (Xh VR s line.data.toList),()),()):=by
 unfold r45 m45 Xh
 dsimp only
 rw[eqW,eqW,eqW,eqW,eqW]
 generalize line.data.toList=l
 have hf:s.pic.frames.length≤4398046511104:=hs.2.2.2.2.1.2.2.1
 have hg:s.snd.samples.length≤4398046511104:=hs.2.2.2.2.2.2
 by_cases h1:l=ZmN
 ·rw[decide_eq_true h1,cond_true,if_pos h1]
  have hw:r123 (s.t,())=some ((bz (ZpU (QG s)),()),()):=by
   unfold r123 m123
   refine Za (Zg6 s hs) ?_
   unfold ZmM
   rw[JN.2 h,if_pos rfl]
   rcases ZoP s with e|e|e|e|e|e<;>rw[e]<;>rfl
  exact Za hw rfl
 rw[decide_eq_false h1,cond_false,if_neg h1]
 by_cases h2:l=Zmz
 ·rw[decide_eq_true h2,cond_true,if_pos h2]
  exact Za (ZgB s.cpu.t) rfl
 rw[decide_eq_false h2,cond_false,if_neg h2]
 by_cases h3:l=Zh3
 ·rw[decide_eq_true h3,cond_true,if_pos h3]
  rw[Zl]
  exact Za (Zaz s.pic.frames.length (by omega)) rfl
 rw[decide_eq_false h3,cond_false,if_neg h3]
 by_cases h4:l=ZeU
 ·rw[decide_eq_true h4,cond_true,if_pos h4]
  rw[Zl]
  exact Za (Zaz s.snd.samples.length (by omega)) rfl
 rw[decide_eq_false h4,cond_false,if_neg h4]
 by_cases h5:l=K4
 ·rw[decide_eq_true h5,cond_true,if_pos h5]
  refine Za (ZbT s hs hr) ?_
  cases Kx s<;>rfl
 rw[decide_eq_false h5,cond_false,if_neg h5]
theorem Zdt (b:ByteArray) (hb:b.data.toList.length≤4000000) (most:Int):r42 (b,(most,()))=some (((Yo b.data.toList most).1,((Yo b.data.toList most).2,())),()):=by
 have h:Nat.ble (ByteArray.size b) 281474976710656=true:=by rw[Nat.ble_eq,Lib.size_eq];omega
 show (bif Nat.ble (ByteArray.size b) 281474976710656 then some (((Yo b.data.toList most).1,((Yo b.data.toList most).2,())),())else none)=_
 rw[h]
 rfl
theorem ZfV (s:Zc) (who:Int) (h:Zq s) (hs:ZM s.t) (hr:ZA s):r40 (s.t,(who,()))=some (((QI s who).t,(bz (K7 (Jg s who)),())),()):=by
 unfold r40 m40
 have hp:=Zg5 s who hs hr
 unfold Jo at hp
 rw[JN.2 h,if_pos rfl]at hp
 refine Za hp ?_
 cases Jg s who<;>rfl
theorem ZrI: ∀(l:List UInt8) (hl:0<l.length),eqI ((l[0]).toNat:Int) 59=decide (l.head? =some 59)
 | [],hl=>absurd hl (by simp)
 |c::r,_=>by
  simp only[List.getElem_cons_zero,List.head?_cons,Option.some.injEq]
  by_cases hc:c=59
  ·subst hc;rfl
  ·rw[decide_eq_false hc]
   exact Zd fun e=>hc (UInt8.toNat_inj.1 (by show _=59;omega))
theorem Znw (line:ByteArray) (h:line.data.toList≠ []):eqI (bt line 0) 59=decide (line.data.toList.head? =some 59):=by
 have hl:0<line.data.toList.length:=List.length_pos_iff.2 h
 have e:=Zqn line 0 hl
 rw[show ((0:Nat):Int)=0 from rfl]at e
 rw[e]
 exact ZrI _ hl
theorem Zfv (s:Zc) (line:ByteArray) (hl:line.data.toList.length≤4000000) (hs:ZM s.t) (hr:s.reads.length≤1048576):r8 (s.t,(line,()))=some (((doA s line.data.toList).1,(bz (doA s line.data.toList).2,())),()):=by
 have hroom:ZA s:=by unfold ZA;omega
 unfold r8 m8
 refine Za (Vu s.t hs) ?_
 unfold doA
 cases hk:Qd s.t with
 |false=>exact Za (U5 s.t hs) rfl
 |true=>
  have h:Zq s:=JN.1 hk
  have hcp:r39 (line,(bz [102,97,105,114,32],()))=some ((bz (Lib.trimPrefix line.data.toList (Kt++[32])),(Lib.hasPrefix line.data.toList (Kt++[32]),())),()):=rfl
  have same: ∀t:List UInt8,((r38 (s.t,())).bind fun r2=>some ((r2.1.1,(bz t,())),()))=some ((s.t,(bz t,())),()):=fun t=>Za (U5 s.t hs) rfl
  have ask:((r38 (s.t,())).bind fun r2=>(r45 (s.t,(line,()))).bind fun r3=>some ((r2.1.1,r3.1),()))=some ((s.t,(bz (Xh VR s line.data.toList),())),()):=
   Za (U5 s.t hs) (Za (Zi1 s line h hs hroom) rfl)
  rw[Bool.not_true,cond_false,if_pos rfl]
  refine Za hcp ?_
  dsimp only
  have hh:=Znw line
  have hsz:(line.size:Int)=(line.data.toList.length:Int):=by rw[Lib.size_eq]
  rw[eqW,eqW,eqW,eqW,eqW,hsz]
  have hrd:=fun b:ByteArray=>Zdt b
  generalize hL:line.data.toList=l at*
  unfold doM
  by_cases h0:l=[]
  ·rw[decide_eq_true h0,cond_true,if_pos (.inl h0)]
   exact same []
  rw[decide_eq_false h0,cond_false,Zf (show (0:Int)< (l.length:Int) by have:=List.length_pos_iff.2 h0;omega),cond_true,hh h0]
  by_cases h59:l.head? =some 59
  ·rw[decide_eq_true h59,cond_true,if_pos (.inr h59)]
   exact same []
  rw[decide_eq_false h59,cond_false,if_neg (by rintro (e|e);exact h0 e;exact h59 e)]
  by_cases h1:l=WF
  ·rw[decide_eq_true h1,cond_true,if_pos h1]
   exact Za (ZfV s 0 h hs hroom) rfl
  rw[decide_eq_false h1,cond_false,if_neg h1]
  by_cases h2:l=Wi
  ·rw[decide_eq_true h2,cond_true,if_pos h2]
   exact Za (ZfV s 1 h hs hroom) rfl
  rw[decide_eq_false h2,cond_false,if_neg h2]
  by_cases h3:l=Ws
  ·rw[decide_eq_true h3,cond_true,if_pos h3]
   exact Za (ZfV s 2 h hs hroom) rfl
  rw[decide_eq_false h3,cond_false,if_neg h3]
  by_cases h4:l=Vz
  ·rw[decide_eq_true h4,cond_true,if_pos h4]
   have hv:=ZcQ s hs hroom
   unfold Ys at hv
   rw[hk,if_pos rfl]at hv
   exact Za hv rfl
  rw[decide_eq_false h4,cond_false,if_neg h4]
  rcases Zn5 Kt l (by decide)with ⟨hp,b,hb,ht⟩| ⟨hp,hn⟩
  ·rw[hp,cond_true,hb,ht]
   have hbl:b.length≤4000000:=by
    have e:b=l.drop (Kt++[32]).length:=by rw[←ht];unfold Lib.trimPrefix;rw[hp,if_pos rfl]
    rw[e,List.length_drop];omega
   refine Za (Zdt (bz b) hbl 999) ?_
   rw[ZqW _ _ (by decide)]
   show (bif (if 0≤Qu b∧Qu b≤999 then (Qu b,true)else (0,false)).2 then _ else _)=_
   dsimp only
   by_cases hq:0≤Qu b∧Qu b≤999
   ·rw[if_pos hq,cond_true,if_pos ⟨rfl,hq⟩]
    have hfa:=Zl7 s (Qu b) hs hr
    unfold WL at hfa
    rw[hk,if_pos rfl]at hfa
    have hfn:(QA (QE (Qu b)) s).2≤3000:=Nat.le_trans (ZhZ h).2.2 (K5 _)
    refine Za hfa ?_
    exact Za (Zaz _ (by omega)) rfl
   ·rw[if_neg hq,cond_false,if_neg (fun e=>hq e.2)]
    exact ask
  ·rw[hp,cond_false]
   refine ask.trans ?_
   cases hc:JX l with
   |none=>rfl
   |some p=>
    have hw: ¬p.1=Kt:=fun e=>hn p.2 (by rw[hc,←e])
    dsimp only
    rw[if_neg (fun e=>hw e.1)]
theorem Zkh (s:Zc) (line:ByteArray) (h:Zq s) (hs:ZM s.t) (hr:ZA s):r24 (s.t,(line,()))=some ((bz (Xh [] s line.data.toList),()),()):=by
 unfold r24 m24 Xh
 dsimp only
 rw[eqW,eqW,eqW,eqW,eqW]
 generalize line.data.toList=l
 have hf:s.pic.frames.length≤4398046511104:=hs.2.2.2.2.1.2.2.1
 have hg:s.snd.samples.length≤4398046511104:=hs.2.2.2.2.2.2
 by_cases h1:l=ZmN
 ·rw[decide_eq_true h1,cond_true,if_pos h1]
  refine Za (Zd4 s h) ?_
  dsimp only
  rcases ZoP s with e|e|e|e|e|e<;>rw[e]<;>rfl
 rw[decide_eq_false h1,cond_false,if_neg h1]
 by_cases h2:l=Zmz
 ·rw[decide_eq_true h2,cond_true,if_pos h2]
  exact Za (ZgL s.cpu.t) rfl
 rw[decide_eq_false h2,cond_false,if_neg h2]
 by_cases h3:l=Zh3
 ·rw[decide_eq_true h3,cond_true,if_pos h3]
  rw[Zl]
  exact Za (ZaI s.pic.frames.length (by omega)) rfl
 rw[decide_eq_false h3,cond_false,if_neg h3]
 by_cases h4:l=ZeU
 ·rw[decide_eq_true h4,cond_true,if_pos h4]
  rw[Zl]
  exact Za (ZaI s.snd.samples.length (by omega)) rfl
 rw[decide_eq_false h4,cond_false,if_neg h4]
 by_cases h5:l=K4
 ·rw[decide_eq_true h5,cond_true,if_pos h5]
  refine Za (Zgb s hs hr) ?_
  cases Kx s<;>rfl
 rw[decide_eq_false h5,cond_false,if_neg h5]
abbrev ZnM:List ByteArray:=[bz WF,bz Wi,bz Ws]
theorem Zon (s:Zc) (who:Int) (h:Zq s) (hs:ZM s.t) (hr:ZA s):r25 (s.t,(who,()))=some (((QI s who).t,(Jg s who,())),()):=by
 have hp:=Zhu s who hs hr
 unfold Jo at hp
 rw[JN.2 h,if_pos rfl]at hp
 exact hp
theorem Zml (s:Zc) (z:Tup Qi) (line:ByteArray) (h:Zq s) (hs:ZM s.t) (hr:ZA s) (k:Nat):
  n6_0 r29 r26 r25 r15 r23 r28 r24 r30 r27 (k+4) (line,(ZnM,())) (s.t,(z,())) ((0:Int),())=
   if line.data.toList=WF then some (Sum.inr (bz (K7 (Jg s 0)),()),(s.t,((QI s 0).t,())))
   else if line.data.toList=Wi then some (Sum.inr (bz (K7 (Jg s 1)),()),(s.t,((QI s 1).t,())))
   else if line.data.toList=Ws then some (Sum.inr (bz (K7 (Jg s 2)),()),(s.t,((QI s 2).t,())))
   else some (Sum.inl ((3:Int),()),(s.t,(z,()))):=by
 have go: ∀who:Int,((r25 (s.t,(who,()))).bind fun r0=>bif r0.1.2.1 then some ((Sum.inr (bz okT,()):Sum (PTup lv6_0) (PTup lr6_0)),(s.t,(r0.1.1,())))else some (Sum.inr (bz noT,()),(s.t,(r0.1.1,()))))=some (Sum.inr (bz (K7 (Jg s who)),()),(s.t,((QI s who).t,()))):=fun who=>by
  refine Za (Zon s who h hs hr) ?_
  cases Jg s who<;>rfl
 show (bif (line.toList==(bz WF).toList)then _ else (bif (line.toList==(bz Wi).toList)then _ else (bif (line.toList==(bz Ws).toList)then _ else _)))=_
 rw[eqW,eqW,eqW]
 by_cases h1:line.data.toList=WF
 ·rw[decide_eq_true h1,cond_true,if_pos h1]
  exact go 0
 rw[decide_eq_false h1,cond_false,if_neg h1]
 by_cases h2:line.data.toList=Wi
 ·rw[decide_eq_true h2,cond_true,if_pos h2]
  exact go 1
 rw[decide_eq_false h2,cond_false,if_neg h2]
 by_cases h3:line.data.toList=Ws
 ·rw[decide_eq_true h3,cond_true,if_pos h3]
  exact go 2
 rw[decide_eq_false h3,cond_false,if_neg h3]
 rfl
theorem Zoo (s:Zc) (line:ByteArray) (hl:line.data.toList.length≤4000000) (hs:ZM s.t) (hr:s.reads.length≤1048576):r6 (s.t,(line,()))=some (((doA s line.data.toList).1,(bz (doA s line.data.toList).2,())),()):=by
 have hroom:ZA s:=by unfold ZA;omega
 unfold r6 m6
 refine Za (Zja s hs hroom) (Za (KK s.t hs) ?_)
 unfold doA
 cases hk:Qd s.t with
 |false=>rfl
 |true=>
  have h:Zq s:=JN.1 hk
  rw[Bool.not_true,cond_false,if_pos rfl]
  dsimp only
  have hh:=Znw line
  have hsz:(line.size:Int)=(line.data.toList.length:Int):=by rw[Lib.size_eq]
  rw[eqW,hsz]
  by_cases h0:line.data.toList=[]
  ·rw[decide_eq_true h0,cond_true]
   unfold doM
   rw[if_pos (.inl h0)]
  rw[decide_eq_false h0,cond_false,Zf (show (0:Int)< (line.data.toList.length:Int) by have:=List.length_pos_iff.2 h0;omega),cond_true,hh h0]
  by_cases h59:line.data.toList.head? =some 59
  ·rw[decide_eq_true h59,cond_true]
   unfold doM
   rw[if_pos (.inr h59)]
  rw[decide_eq_false h59,cond_false]
  refine Za (Zkh s line h hs hroom) ?_
  show (bif !((bz (Xh [] s line.data.toList)).toList==(bz []).toList)then _ else _)=_
  rw[eqW]
  show (bif !decide (Xh [] s line.data.toList=[])then _ else _)=_
  rcases Zrq s h line.data.toList with ⟨ha,hw⟩| ⟨ha,hw⟩
  ·rw[decide_eq_true ha,Bool.not_true,cond_false]
   obtain ⟨k,hf⟩: ∃k,fuel=k+4:=⟨fuel-4,by have:=ZQ;omega⟩
   have hn:=fun z=>Zml s z line h hs hroom k
   have hn2:=fun z=>(show L6_0 (line,(ZnM,())) (s.t,(z,())) ((0:Int),())=n6_0 r29 r26 r25 r15 r23 r28 r24 r30 r27 (k+4) (line,(ZnM,())) (s.t,(z,())) ((0:Int),()) by unfold L6_0;rw[hf]).trans (hn z)
   unfold doM
   rw[if_neg (by rintro (e|e);exact h0 e;exact h59 e)]
   by_cases h1:line.data.toList=WF
   ·rw[if_pos h1]
    simp only[if_pos h1]at hn2
    exact Za (hn2 _) rfl
   rw[if_neg h1]
   by_cases h2:line.data.toList=Wi
   ·rw[if_pos h2]
    simp only[if_neg h1,if_pos h2]at hn2
    exact Za (hn2 _) rfl
   rw[if_neg h2]
   by_cases h3:line.data.toList=Ws
   ·rw[if_pos h3]
    simp only[if_neg h1,if_neg h2,if_pos h3]at hn2
    exact Za (hn2 _) rfl
   rw[if_neg h3]
   simp only[if_neg h1,if_neg h2,if_neg h3]at hn2
   refine Za (hn2 _) ?_
   show (bif (line.toList==(bz Vz).toList)then _ else _)=_
   rw[eqW]
   by_cases h4:line.data.toList=Vz
   ·rw[decide_eq_true h4,cond_true,if_pos h4]
    have hv:=Zby s hs hroom
    unfold Ys at hv
    rw[hk,if_pos rfl]at hv
    exact Za hv rfl
   rw[decide_eq_false h4,cond_false,if_neg h4]
   refine Za (ZnD line hl) ?_
   unfold ZqR
   cases hc:JX line.data.toList with
   |none=>
    show (bif (line.toList==(bz Kt).toList)then _ else _)=_
    rw[eqW]
    by_cases h5:line.data.toList=Kt
    ·rw[decide_eq_true h5,cond_true,JT,hw]
     rfl
    ·rw[decide_eq_false h5,cond_false,hw]
   |some p=>
    obtain ⟨w,b⟩:=p
    show (bif leI 0 (Qu b)then (bif ((bz w).toList==(bz Kt).toList)then _ else _)else _)=_
    rw[eqW]
    show (bif leI 0 (Qu b)then (bif decide (w=Kt)then _ else _)else _)=_
    by_cases hq:0≤Qu b
    ·rw[Zo hq,cond_true]
     by_cases hwf:w=Kt
     ·rw[decide_eq_true hwf,cond_true,JT,Option.bind_some]
      show (bif (leI 0 (Qu b)&&leI (Qu b) 999)then _ else _)=_
      rw[Zo hq,Bool.true_and]
      by_cases hq2:Qu b≤999
      ·rw[Zo hq2,cond_true]
       dsimp only
       rw[if_pos ⟨hwf,hq,hq2⟩]
       have hfa:=ZmC s (Qu b) hs hr
       unfold WL at hfa
       rw[hk,if_pos rfl]at hfa
       have hfn:(QA (QE (Qu b)) s).2≤3000:=Nat.le_trans (ZhZ h).2.2 (K5 _)
       exact Za hfa (Za (ZaI _ (by omega)) rfl)
      ·rw[YI hq2,cond_false]
       dsimp only
       rw[if_neg (fun e=>hq2 e.2.2),hw]
     ·rw[decide_eq_false hwf,cond_false]
      dsimp only
      rw[if_neg (fun e=>hwf e.1),hw]
    ·rw[YI hq,cond_false]
     dsimp only
     rw[if_neg (fun e=>hq e.2.1),hw]
  ·rw[decide_eq_false ha,Bool.not_false,cond_true,hw]
theorem Zsl {s:Zc} (hs:ZM s.t) (hr:s.reads.length≤1048576) (l:List UInt8):ZM (doA s l).1:=by
 unfold doA
 cases hk:Qd s.t with
 |false=>exact hs
 |true=>
  obtain ⟨a,b⟩:=ZrA (JN.1 hk) l
  exact a.s (by omega)

end Go.Proofs.YtleidaafbhojfaaGreatDoor.Plain
