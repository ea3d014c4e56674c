/- Plain laws of the printed functions: Desk, Desk2. No condition beyond those that each lemma states. -/
import Derived.Test.YtleidaafbhojfaaGreatDoorPM
set_option linter.unusedVariables false
set_option linter.unusedSimpArgs false
namespace Go.Proofs.YtleidaafbhojfaaGreatDoor.Plain
open Go Go.Tev
abbrev ZwF:List UInt8:=[119,97,105,116]
abbrev Zwq:List UInt8:=[115,104,111,119]
abbrev Zod:List UInt8:=[102,114,97,109,101,115]
abbrev ZkR:List UInt8:=[115,97,109,112,108,101,115]
abbrev ZrN:List UInt8:=[106,117,100,103,101]
abbrev cpuW:List UInt8:=[99,112,117]
abbrev ZeM:List UInt8:=[112,105,99,116,117,114,101]
abbrev Zkm:List UInt8:=[115,111,117,110,100]
abbrev ZrS:List UInt8:=[108,101,118,101,108]
abbrev Zlm:List UInt8:=[102,97,105,114]
abbrev okT:List UInt8:=[111,107]
abbrev noT:List UInt8:=[110,111]
abbrev yesT:List UInt8:=[121,101,115]
abbrev ZtJ:List UInt8:=[119,104,97,116]
abbrev badT:List UInt8:=[98,97,100]
abbrev ZyI:List UInt8:=[110,111,110,101]
abbrev ZyO:List UInt8:=[114,111,111,109]
abbrev ZyM:List UInt8:=[111,118,101,114]
def okNo (b:Bool):List UInt8:=bif b then okT else noT
def Zx4 (b:Bool):List UInt8:=bif b then yesT else noT
def ZwD (n:Int):List UInt8:=if n=0 then ZyI else if n=1 then ZeM else if n=2 then Zkm else if n=5 then ZyM else ZyO
theorem ZvA (s:Zac):Zct s=0∨Zct s=1∨Zct s=2∨Zct s=3∨Zct s=4∨Zct s=5:=by
 have o: ∀n,ZgQ s n=0∨ZgQ s n=5:=fun n=>by unfold ZgQ;split<;>omega
 have o1:=o 7
 have o2:=o (Za0 (opS s))
 unfold Zct
 repeat' split
 all_goals omega
def askT (d:List UInt8) (s:Zac) (l:List UInt8):List UInt8:=
 if l=ZwF then ZwD (Zct s)
 else if l=Zwq then Zdt s.cpu.t
 else if l=Zod then Lib.decDigits s.pic.frames.length
 else if l=ZkR then Lib.decDigits s.snd.samples.length
 else if l=ZrN then Zx4 (Zem s)
 else d
def doM (s:Zac) (l:List UInt8):Zac×List UInt8:=
 if l=[]∨l.head? =some 59 then (s,[])
 else if l=cpuW then (Za7 s 0,okNo (Zcp s 0))
 else if l=ZeM then (Za7 s 1,okNo (Zcp s 1))
 else if l=Zkm then (Za7 s 2,okNo (Zcp s 2))
 else if l=ZrS then (ZaK s,okT)
 else match Zfl l with
  |none=>(s,askT ZtJ s l)
  |some p=>if p.1=Zlm∧0≤numA p.2∧numA p.2≤999 then ((Zb1 (Zcd (numA p.2)) s).1,Lib.decDigits (Zb1 (Zcd (numA p.2)) s).2)else (s,askT ZtJ s l)
theorem ZyC {s:Zac} (h:Zar s) (l:List UInt8):Zar (doM s l).1∧(doM s l).1.reads.length≤s.reads.length+999:=by
 have same:Zar s∧s.reads.length≤s.reads.length+999:=⟨h,by omega⟩
 have pk: ∀who,Zar (Za7 s who)∧(Za7 s who).reads.length≤s.reads.length+999:=fun who=>by
  obtain ⟨a,b⟩:=ZpO h who
  exact ⟨a,by omega⟩
 unfold doM
 split
 ·exact same
 split
 ·exact pk 0
 split
 ·exact pk 1
 split
 ·exact pk 2
 split
 ·exact ⟨(ZiV h).1,by show (ZaK s).reads.length≤_;unfold ZaK;exact Nat.le_add_right _ _⟩
 split
 ·exact same
 ·rename_i p _
  split
  ·rename_i hp
   obtain ⟨a,b,_⟩:=Zn9 (n:=Zcd (numA p.2)) h
   have:Zcd (numA p.2)≤999:=by unfold Zcd;split<;>omega
   exact ⟨a,by dsimp only;omega⟩
  ·exact same
def doA (s:Zac) (l:List UInt8):Tup ZaO×List UInt8:=if ZaB s.t then ((doM s l).1.t,(doM s l).2)else (s.t,badT)
theorem ZwL (n:Nat):Lib.decDigits n≠ []:=by
 rw[Zlg]
 split
 ·simp
 ·simp
theorem ZwE (n:Int):ZwD n≠ []:=by
 unfold ZwD
 repeat' split
 all_goals simp
theorem ZwI (b:Bool):Zx4 b≠ []:=by cases b<;>simp[Zx4]
theorem Zyb {s:Zac} (h:Zar s):Zfj s.cpu.t=true:=by
 have:=ZaD.2 h
 unfold ZaB ZfF at this
 simp only[Bool.and_eq_true]at this
 first
  |exact this.1.2.2.1
  |exact this.2.2.2.1
  |exact this.2.2.1
theorem Zxf {s:Zac} (h:Zar s):Zdt s.cpu.t≠ []:=fun e=>by
 have:=Zqx s.cpu.t
 rw[decide_eq_true e,Zyb h]at this
 cases this
theorem Zx7 (s:Zac) (h:Zar s) (l:List UInt8):(askT [] s l=[]∧askT ZtJ s l=ZtJ)∨(askT [] s l≠ []∧doM s l=(s,askT [] s l)):=by
 by_cases h1:l=ZwF
 ·subst h1;exact .inr ⟨ZwE _,rfl⟩
 by_cases h2:l=Zwq
 ·subst h2;exact .inr ⟨Zxf h,rfl⟩
 by_cases h3:l=Zod
 ·subst h3;exact .inr ⟨ZwL _,rfl⟩
 by_cases h4:l=ZkR
 ·subst h4;exact .inr ⟨ZwL _,rfl⟩
 by_cases h5:l=ZrN
 ·subst h5;exact .inr ⟨ZwI _,rfl⟩
 left
 unfold askT
 rw[if_neg h1,if_neg h2,if_neg h3,if_neg h4,if_neg h5,if_neg h1,if_neg h2,if_neg h3,if_neg h4,if_neg h5]
 exact ⟨rfl,rfl⟩
theorem Zpp (s:Zac) (line:ByteArray) (h:Zar s) (hs:Zal s.t) (hr:Room s):r45 (s.t,(line,()))=some ((bz (askT ZtJ s line.data.toList),()),()):=by
 unfold r45 m45 askT
 dsimp only
 rw[eqW,eqW,eqW,eqW,eqW]
 generalize line.data.toList=l
 have hf:s.pic.frames.length≤4398046511104:=hs.2.2.2.2.1.2.2.1
 have hg:s.snd.samples.length≤4398046511104:=hs.2.2.2.2.2.2
 by_cases h1:l=ZwF
 ·rw[decide_eq_true h1,cond_true,if_pos h1]
  have hw:r123 (s.t,())=some ((bz (ZwD (Zct s)),()),()):=by
   unfold r123 m123
   refine Zaa (Znp s hs) ?_
   unfold ZtI
   rw[ZaD.2 h,if_pos rfl]
   rcases ZvA s with e|e|e|e|e|e<;>rw[e]<;>rfl
  exact Zaa hw rfl
 rw[decide_eq_false h1,cond_false,if_neg h1]
 by_cases h2:l=Zwq
 ·rw[decide_eq_true h2,cond_true,if_pos h2]
  exact Zaa (ZmN s.cpu.t) rfl
 rw[decide_eq_false h2,cond_false,if_neg h2]
 by_cases h3:l=Zod
 ·rw[decide_eq_true h3,cond_true,if_pos h3]
  rw[Zad]
  exact Zaa (Zd0 s.pic.frames.length (by omega)) rfl
 rw[decide_eq_false h3,cond_false,if_neg h3]
 by_cases h4:l=ZkR
 ·rw[decide_eq_true h4,cond_true,if_pos h4]
  rw[Zad]
  exact Zaa (Zd0 s.snd.samples.length (by omega)) rfl
 rw[decide_eq_false h4,cond_false,if_neg h4]
 by_cases h5:l=ZrN
 ·rw[decide_eq_true h5,cond_true,if_pos h5]
  refine Zaa (ZlC s hs hr) ?_
  cases Zem s<;>rfl
 rw[decide_eq_false h5,cond_false,if_neg h5]
theorem Zi9 (b:ByteArray) (hb:b.data.toList.length≤4000000) (most:Int):r42 (b,(most,()))=some (((numR b.data.toList most).1,((numR b.data.toList most).2,())),()):=by
 have h:Nat.ble (ByteArray.size b) 281474976710656=true:=by rw[Nat.ble_eq,Lib.size_eq];omega
 show (bif Nat.ble (ByteArray.size b) 281474976710656 then some (((numR b.data.toList most).1,((numR b.data.toList most).2,())),())else none)=_
 rw[h]
 rfl
theorem Zl6 (s:Zac) (who:Int) (h:Zar s) (hs:Zal s.t) (hr:Room s):r40 (s.t,(who,()))=some (((Za7 s who).t,(bz (okNo (Zcp s who)),())),()):=by
 unfold r40 m40
 have hp:=Zno s who hs hr
 unfold Zdi at hp
 rw[ZaD.2 h,if_pos rfl]at hp
 refine Zaa hp ?_
 cases Zcp s who<;>rfl
theorem Zyh: ∀(l:List UInt8) (hl:0<l.length),eqI ((l[0]).toNat:Int) 59=decide (l.head? =some 59)
 | [],hl=>absurd hl (by simp)
 |c::r,_=>by
  simp only[List.getElem_cons_zero,List.head?_cons,Option.some.injEq]
  by_cases hc:c=59
  ·subst hc;rfl
  ·rw[decide_eq_false hc]
   exact Zag fun e=>hc (UInt8.toNat_inj.1 (by show _=59;omega))
theorem Zum (line:ByteArray) (h:line.data.toList≠ []):eqI (bt line 0) 59=decide (line.data.toList.head? =some 59):=by
 have hl:0<line.data.toList.length:=List.length_pos_iff.2 h
 have e:=Zw8 line 0 hl
 rw[show ((0:Nat):Int)=0 from rfl]at e
 rw[e]
 exact Zyh _ hl
theorem Zuo (s:Zac) (line:ByteArray) (hl:line.data.toList.length≤4000000) (hs:Zal s.t) (hr:s.reads.length≤1048576):r8 (s.t,(line,()))=some (((doA s line.data.toList).1,(bz (doA s line.data.toList).2,())),()):=by
 have hroom:Room s:=by unfold Room;omega
 unfold r8 m8
 refine Zaa (Zbg s.t hs) ?_
 unfold doA
 cases hk:ZaB s.t with
 |false=>exact Zaa (ZcI s.t hs) rfl
 |true=>
  have h:Zar s:=ZaD.1 hk
  have hcp:r39 (line,(bz [102,97,105,114,32],()))=some ((bz (Lib.trimPrefix line.data.toList (Zlm++[32])),(Lib.hasPrefix line.data.toList (Zlm++[32]),())),()):=rfl
  have same: ∀t:List UInt8,((r38 (s.t,())).bind fun r2=>some ((r2.1.1,(bz t,())),()))=some ((s.t,(bz t,())),()):=fun t=>Zaa (ZcI s.t hs) rfl
  have ask:((r38 (s.t,())).bind fun r2=>(r45 (s.t,(line,()))).bind fun r3=>some ((r2.1.1,r3.1),()))=some ((s.t,(bz (askT ZtJ s line.data.toList),())),()):=
   Zaa (ZcI s.t hs) (Zaa (Zpp s line h hs hroom) rfl)
  rw[Bool.not_true,cond_false,if_pos rfl]
  refine Zaa hcp ?_
  dsimp only
  have hh:=Zum line
  have hsz:(line.size:Int)=(line.data.toList.length:Int):=by rw[Lib.size_eq]
  rw[eqW,eqW,eqW,eqW,eqW,hsz]
  have hrd:=fun b:ByteArray=>Zi9 b
  generalize hL:line.data.toList=l at*
  unfold doM
  by_cases h0:l=[]
  ·rw[decide_eq_true h0,cond_true,if_pos (.inl h0)]
   exact same []
  rw[decide_eq_false h0,cond_false,Zaj (show (0:Int)< (l.length:Int) by have:=List.length_pos_iff.2 h0;omega),cond_true,hh h0]
  by_cases h59:l.head? =some 59
  ·rw[decide_eq_true h59,cond_true,if_pos (.inr h59)]
   exact same []
  rw[decide_eq_false h59,cond_false,if_neg (by rintro (e|e);exact h0 e;exact h59 e)]
  by_cases h1:l=cpuW
  ·rw[decide_eq_true h1,cond_true,if_pos h1]
   exact Zaa (Zl6 s 0 h hs hroom) rfl
  rw[decide_eq_false h1,cond_false,if_neg h1]
  by_cases h2:l=ZeM
  ·rw[decide_eq_true h2,cond_true,if_pos h2]
   exact Zaa (Zl6 s 1 h hs hroom) rfl
  rw[decide_eq_false h2,cond_false,if_neg h2]
  by_cases h3:l=Zkm
  ·rw[decide_eq_true h3,cond_true,if_pos h3]
   exact Zaa (Zl6 s 2 h hs hroom) rfl
  rw[decide_eq_false h3,cond_false,if_neg h3]
  by_cases h4:l=ZrS
  ·rw[decide_eq_true h4,cond_true,if_pos h4]
   have hv:=Zid s hs hroom
   unfold ZcY at hv
   rw[hk,if_pos rfl]at hv
   exact Zaa hv rfl
  rw[decide_eq_false h4,cond_false,if_neg h4]
  rcases ZuT Zlm l (by decide)with ⟨hp,b,hb,ht⟩| ⟨hp,hn⟩
  ·rw[hp,cond_true,hb,ht]
   have hbl:b.length≤4000000:=by
    have e:b=l.drop (Zlm++[32]).length:=by rw[←ht];unfold Lib.trimPrefix;rw[hp,if_pos rfl]
    rw[e,List.length_drop];omega
   refine Zaa (Zi9 (bz b) hbl 999) ?_
   rw[ZxH _ _ (by decide)]
   show (bif (if 0≤numA b∧numA b≤999 then (numA b,true)else (0,false)).2 then _ else _)=_
   dsimp only
   by_cases hq:0≤numA b∧numA b≤999
   ·rw[if_pos hq,cond_true,if_pos ⟨rfl,hq⟩]
    have hfa:=Zs1 s (numA b) hs hr
    unfold Zpg at hfa
    rw[hk,if_pos rfl]at hfa
    have hfn:(Zb1 (Zcd (numA b)) s).2≤3000:=Nat.le_trans (Zn9 h).2.2 (Zc0 _)
    refine Zaa hfa ?_
    exact Zaa (Zd0 _ (by omega)) rfl
   ·rw[if_neg hq,cond_false,if_neg (fun e=>hq e.2)]
    exact ask
  ·rw[hp,cond_false]
   refine ask.trans ?_
   cases hc:Zfl l with
   |none=>rfl
   |some p=>
    have hw: ¬p.1=Zlm:=fun e=>hn p.2 (by rw[hc,←e])
    dsimp only
    rw[if_neg (fun e=>hw e.1)]
theorem ZqQ (s:Zac) (line:ByteArray) (h:Zar s) (hs:Zal s.t) (hr:Room s):r24 (s.t,(line,()))=some ((bz (askT [] s line.data.toList),()),()):=by
 unfold r24 m24 askT
 dsimp only
 rw[eqW,eqW,eqW,eqW,eqW]
 generalize line.data.toList=l
 have hf:s.pic.frames.length≤4398046511104:=hs.2.2.2.2.1.2.2.1
 have hg:s.snd.samples.length≤4398046511104:=hs.2.2.2.2.2.2
 by_cases h1:l=ZwF
 ·rw[decide_eq_true h1,cond_true,if_pos h1]
  refine Zaa (ZjG s h) ?_
  dsimp only
  rcases ZvA s with e|e|e|e|e|e<;>rw[e]<;>rfl
 rw[decide_eq_false h1,cond_false,if_neg h1]
 by_cases h2:l=Zwq
 ·rw[decide_eq_true h2,cond_true,if_pos h2]
  exact Zaa (Zm0 s.cpu.t) rfl
 rw[decide_eq_false h2,cond_false,if_neg h2]
 by_cases h3:l=Zod
 ·rw[decide_eq_true h3,cond_true,if_pos h3]
  rw[Zad]
  exact Zaa (Zeo s.pic.frames.length (by omega)) rfl
 rw[decide_eq_false h3,cond_false,if_neg h3]
 by_cases h4:l=ZkR
 ·rw[decide_eq_true h4,cond_true,if_pos h4]
  rw[Zad]
  exact Zaa (Zeo s.snd.samples.length (by omega)) rfl
 rw[decide_eq_false h4,cond_false,if_neg h4]
 by_cases h5:l=ZrN
 ·rw[decide_eq_true h5,cond_true,if_pos h5]
  refine Zaa (Zmm s hs hr) ?_
  cases Zem s<;>rfl
 rw[decide_eq_false h5,cond_false,if_neg h5]
abbrev ZuB:List ByteArray:=[bz cpuW,bz ZeM,bz Zkm]
theorem Zvc (s:Zac) (who:Int) (h:Zar s) (hs:Zal s.t) (hr:Room s):r25 (s.t,(who,()))=some (((Za7 s who).t,(Zcp s who,())),()):=by
 have hp:=ZnJ s who hs hr
 unfold Zdi at hp
 rw[ZaD.2 h,if_pos rfl]at hp
 exact hp
theorem Ztg (s:Zac) (z:Tup ZaO) (line:ByteArray) (h:Zar s) (hs:Zal s.t) (hr:Room s) (k:Nat):
  n6_0 r29 r26 r25 r15 r23 r28 r24 r30 r27 (k+4) (line,(ZuB,())) (s.t,(z,())) ((0:Int),())=
   if line.data.toList=cpuW then some (Sum.inr (bz (okNo (Zcp s 0)),()),(s.t,((Za7 s 0).t,())))
   else if line.data.toList=ZeM then some (Sum.inr (bz (okNo (Zcp s 1)),()),(s.t,((Za7 s 1).t,())))
   else if line.data.toList=Zkm then some (Sum.inr (bz (okNo (Zcp s 2)),()),(s.t,((Za7 s 2).t,())))
   else some (Sum.inl ((3:Int),()),(s.t,(z,()))):=by
 have go: ∀who:Int,((r25 (s.t,(who,()))).bind fun r0=>bif r0.1.2.1 then some ((Sum.inr (bz okT,()):Sum (PTup lv6_0) (PTup lr6_0)),(s.t,(r0.1.1,())))else some (Sum.inr (bz noT,()),(s.t,(r0.1.1,()))))=some (Sum.inr (bz (okNo (Zcp s who)),()),(s.t,((Za7 s who).t,()))):=fun who=>by
  refine Zaa (Zvc s who h hs hr) ?_
  cases Zcp s who<;>rfl
 show (bif (line.toList==(bz cpuW).toList)then _ else (bif (line.toList==(bz ZeM).toList)then _ else (bif (line.toList==(bz Zkm).toList)then _ else _)))=_
 rw[eqW,eqW,eqW]
 by_cases h1:line.data.toList=cpuW
 ·rw[decide_eq_true h1,cond_true,if_pos h1]
  exact go 0
 rw[decide_eq_false h1,cond_false,if_neg h1]
 by_cases h2:line.data.toList=ZeM
 ·rw[decide_eq_true h2,cond_true,if_pos h2]
  exact go 1
 rw[decide_eq_false h2,cond_false,if_neg h2]
 by_cases h3:line.data.toList=Zkm
 ·rw[decide_eq_true h3,cond_true,if_pos h3]
  exact go 2
 rw[decide_eq_false h3,cond_false,if_neg h3]
 rfl
theorem Zvd (s:Zac) (line:ByteArray) (hl:line.data.toList.length≤4000000) (hs:Zal s.t) (hr:s.reads.length≤1048576):r6 (s.t,(line,()))=some (((doA s line.data.toList).1,(bz (doA s line.data.toList).2,())),()):=by
 have hroom:Room s:=by unfold Room;omega
 unfold r6 m6
 refine Zaa (Zpz s hs hroom) (Zaa (Za4 s.t hs) ?_)
 unfold doA
 cases hk:ZaB s.t with
 |false=>rfl
 |true=>
  have h:Zar s:=ZaD.1 hk
  rw[Bool.not_true,cond_false,if_pos rfl]
  dsimp only
  have hh:=Zum line
  have hsz:(line.size:Int)=(line.data.toList.length:Int):=by rw[Lib.size_eq]
  rw[eqW,hsz]
  by_cases h0:line.data.toList=[]
  ·rw[decide_eq_true h0,cond_true]
   unfold doM
   rw[if_pos (.inl h0)]
  rw[decide_eq_false h0,cond_false,Zaj (show (0:Int)< (line.data.toList.length:Int) by have:=List.length_pos_iff.2 h0;omega),cond_true,hh h0]
  by_cases h59:line.data.toList.head? =some 59
  ·rw[decide_eq_true h59,cond_true]
   unfold doM
   rw[if_pos (.inr h59)]
  rw[decide_eq_false h59,cond_false]
  refine Zaa (ZqQ s line h hs hroom) ?_
  show (bif !((bz (askT [] s line.data.toList)).toList==(bz []).toList)then _ else _)=_
  rw[eqW]
  show (bif !decide (askT [] s line.data.toList=[])then _ else _)=_
  rcases Zx7 s h line.data.toList with ⟨ha,hw⟩| ⟨ha,hw⟩
  ·rw[decide_eq_true ha,Bool.not_true,cond_false]
   obtain ⟨k,hf⟩: ∃k,fuel=k+4:=⟨fuel-4,by have:=Zaq;omega⟩
   have hn:=fun z=>Ztg s z line h hs hroom k
   have hn2:=fun z=>(show L6_0 (line,(ZuB,())) (s.t,(z,())) ((0:Int),())=n6_0 r29 r26 r25 r15 r23 r28 r24 r30 r27 (k+4) (line,(ZuB,())) (s.t,(z,())) ((0:Int),()) by unfold L6_0;rw[hf]).trans (hn z)
   unfold doM
   rw[if_neg (by rintro (e|e);exact h0 e;exact h59 e)]
   by_cases h1:line.data.toList=cpuW
   ·rw[if_pos h1]
    simp only[if_pos h1]at hn2
    exact Zaa (hn2 _) rfl
   rw[if_neg h1]
   by_cases h2:line.data.toList=ZeM
   ·rw[if_pos h2]
    simp only[if_neg h1,if_pos h2]at hn2
    exact Zaa (hn2 _) rfl
   rw[if_neg h2]
   by_cases h3:line.data.toList=Zkm
   ·rw[if_pos h3]
    simp only[if_neg h1,if_neg h2,if_pos h3]at hn2
    exact Zaa (hn2 _) rfl
   rw[if_neg h3]
   simp only[if_neg h1,if_neg h2,if_neg h3]at hn2
   refine Zaa (hn2 _) ?_
   show (bif (line.toList==(bz ZrS).toList)then _ else _)=_
   rw[eqW]
   by_cases h4:line.data.toList=ZrS
   ·rw[decide_eq_true h4,cond_true,if_pos h4]
    have hv:=Zf7 s hs hroom
    unfold ZcY at hv
    rw[hk,if_pos rfl]at hv
    exact Zaa hv rfl
   rw[decide_eq_false h4,cond_false,if_neg h4]
   refine Zaa (Zut line hl) ?_
   unfold ZxD
   cases hc:Zfl line.data.toList with
   |none=>
    show (bif (line.toList==(bz Zlm).toList)then _ else _)=_
    rw[eqW]
    by_cases h5:line.data.toList=Zlm
    ·rw[decide_eq_true h5,cond_true,ZbV,hw]
     rfl
    ·rw[decide_eq_false h5,cond_false,hw]
   |some p=>
    obtain ⟨w,b⟩:=p
    show (bif leI 0 (numA b)then (bif ((bz w).toList==(bz Zlm).toList)then _ else _)else _)=_
    rw[eqW]
    show (bif leI 0 (numA b)then (bif decide (w=Zlm)then _ else _)else _)=_
    by_cases hq:0≤numA b
    ·rw[Zay hq,cond_true]
     by_cases hwf:w=Zlm
     ·rw[decide_eq_true hwf,cond_true,ZbV,Option.bind_some]
      show (bif (leI 0 (numA b)&&leI (numA b) 999)then _ else _)=_
      rw[Zay hq,Bool.true_and]
      by_cases hq2:numA b≤999
      ·rw[Zay hq2,cond_true]
       dsimp only
       rw[if_pos ⟨hwf,hq,hq2⟩]
       have hfa:=Ztu s (numA b) hs hr
       unfold Zpg at hfa
       rw[hk,if_pos rfl]at hfa
       have hfn:(Zb1 (Zcd (numA b)) s).2≤3000:=Nat.le_trans (Zn9 h).2.2 (Zc0 _)
       exact Zaa hfa (Zaa (Zeo _ (by omega)) rfl)
      ·rw[ZiU hq2,cond_false]
       dsimp only
       rw[if_neg (fun e=>hq2 e.2.2),hw]
     ·rw[decide_eq_false hwf,cond_false]
      dsimp only
      rw[if_neg (fun e=>hwf e.1),hw]
    ·rw[ZiU hq,cond_false]
     dsimp only
     rw[if_neg (fun e=>hq e.2.1),hw]
  ·rw[decide_eq_false ha,Bool.not_false,cond_true,hw]
theorem ZyB {s:Zac} (hs:Zal s.t) (hr:s.reads.length≤1048576) (l:List UInt8):Zal (doA s l).1:=by
 unfold doA
 cases hk:ZaB s.t with
 |false=>exact hs
 |true=>
  obtain ⟨a,b⟩:=ZyC (ZaD.1 hk) l
  exact a.s (by omega)

end Go.Proofs.YtleidaafbhojfaaGreatDoor.Plain
