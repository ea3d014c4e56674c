/- Plain laws of the printed functions: Desk, Desk2. No condition beyond those that each lemma states. -/
import Derived.Test.YtcbdldlphpjmbaaGreatDoorPM
set_option linter.unusedVariables false
set_option linter.unusedSimpArgs false
namespace Go.Proofs.YtcbdldlphpjmbaaGreatDoor.Plain
open Go Go.Tev
abbrev ZpF:List UInt8:=[119,97,105,116]
abbrev Zps:List UInt8:=[115,104,111,119]
abbrev Zh5:List UInt8:=[102,114,97,109,101,115]
abbrev Ze2:List UInt8:=[115,97,109,112,108,101,115]
abbrev Zk1:List UInt8:=[106,117,100,103,101]
abbrev Um:List UInt8:=[99,112,117]
abbrev WQ:List UInt8:=[112,105,99,116,117,114,101]
abbrev WY:List UInt8:=[115,111,117,110,100]
abbrev Zk6:List UInt8:=[108,101,118,101,108]
abbrev KZ:List UInt8:=[102,97,105,114]
abbrev okT:List UInt8:=[111,107]
abbrev noT:List UInt8:=[110,111]
abbrev ZsE:List UInt8:=[121,101,115]
abbrev UT:List UInt8:=[119,104,97,116]
abbrev Zsw:List UInt8:=[98,97,100]
abbrev Zr5:List UInt8:=[110,111,110,101]
abbrev Zsd:List UInt8:=[114,111,111,109]
abbrev Zsa:List UInt8:=[111,118,101,114]
def Vw (b:Bool):List UInt8:=bif b then okT else noT
def ZpI (b:Bool):List UInt8:=bif b then ZsE else noT
def ZoD (n:Int):List UInt8:=if n=0 then Zr5 else if n=1 then WQ else if n=2 then WY else if n=5 then Zsa else Zsd
theorem ZoB (s:Zh):QS s=0∨QS s=1∨QS s=2∨QS s=3∨QS s=4∨QS s=5:=by
 have o: ∀n,YR s n=0∨YR s n=5:=fun n=>by unfold YR;split<;>omega
 have o1:=o 7;have o2:=o (Qr (opS s));unfold QS
 repeat' split
 all_goals omega
def YZ (d:List UInt8) (s:Zh) (l:List UInt8):List UInt8:=
 if l=ZpF then ZoD (QS s)
 else if l=Zps then KY s.cpu.t
 else if l=Zh5 then Lib.decDigits s.pic.frames.length
 else if l=Ze2 then Lib.decDigits s.snd.samples.length
 else if l=Zk1 then ZpI (WI s)
 else d
def doM (s:Zh) (l:List UInt8):Zh×List UInt8:=
 if l=[]∨l.head? =some 59 then (s,[])
 else if l=Um then (Jm s 0,Vw (J3 s 0))
 else if l=WQ then (Jm s 1,Vw (J3 s 1))
 else if l=WY then (Jm s 2,Vw (J3 s 2))
 else if l=Zk6 then (ZV s,okT)
 else match Jl l with
  |none=>(s,YZ UT s l)
  |some p=>if p.1=KZ∧0≤Zs p.2∧Zs p.2≤999 then ((QB (Qy (Zs p.2)) s).1,Lib.decDigits (QB (Qy (Zs p.2)) s).2)else (s,YZ UT s l)
theorem ZrV {s:Zh} (h:Zz s) (l:List UInt8):Zz (doM s l).1∧(doM s l).1.reads.length≤s.reads.length+999:=by
 have same:Zz s∧s.reads.length≤s.reads.length+999:=⟨h,by omega⟩;have pk: ∀who,Zz (Jm s who)∧(Jm s who).reads.length≤s.reads.length+999:=fun who=>by
  obtain ⟨a,b⟩:=Zjn h who;exact ⟨a,by omega⟩
 unfold doM;split
 ·exact same
 split
 ·exact pk 0
 split
 ·exact pk 1
 split
 ·exact pk 2
 split
 ·exact ⟨(Zds h).1,by show (ZV s).reads.length≤_;unfold ZV;exact Nat.le_add_right _ _⟩
 split
 ·exact same
 ·rename_i p _;split
  ·rename_i hp;obtain ⟨a,b,_⟩:=Zft (n:=Qy (Zs p.2)) h;have:Qy (Zs p.2)≤999:=by unfold Qy;split<;>omega
   exact ⟨a,by dsimp only;omega⟩
  ·exact same
def doA (s:Zh) (l:List UInt8):Tup QL×List UInt8:=if Z8 s.t then ((doM s l).1.t,(doM s l).2)else (s.t,Zsw)
theorem ZpM (n:Nat):Lib.decDigits n≠ []:=by
 rw[Un];split
 ·simp
 ·simp
theorem ZpE (n:Int):ZoD n≠ []:=by
 unfold ZoD
 repeat' split
 all_goals simp
theorem ZpJ (b:Bool):ZpI b≠ []:=by cases b<;>simp[ZpI]
theorem Zrd {s:Zh} (h:Zz s):Yp s.cpu.t=true:=by
 have:=JX.2 h;unfold Z8 Zbn at this;simp only[Bool.and_eq_true]at this
 first
  |exact this.1.2.2.1
  |exact this.2.2.2.1
  |exact this.2.2.1
theorem Zqi {s:Zh} (h:Zz s):KY s.cpu.t≠ []:=fun e=>by
 have:=Zj1 s.cpu.t;rw[ZC e,Zrd h]at this;cases this
theorem Zq8 (s:Zh) (h:Zz s) (l:List UInt8):(YZ [] s l=[]∧YZ UT s l=UT)∨(YZ [] s l≠ []∧doM s l=(s,YZ [] s l)):=by
 by_cases h1:l=ZpF
 ·subst h1;exact .inr ⟨ZpE _,rfl⟩
 by_cases h2:l=Zps
 ·subst h2;exact .inr ⟨Zqi h,rfl⟩
 by_cases h3:l=Zh5
 ·subst h3;exact .inr ⟨ZpM _,rfl⟩
 by_cases h4:l=Ze2
 ·subst h4;exact .inr ⟨ZpM _,rfl⟩
 by_cases h5:l=Zk1
 ·subst h5;exact .inr ⟨ZpJ _,rfl⟩
 left;unfold YZ;rw[Zc h1,Zc h2,Zc h3,Zc h4,Zc h5,Zc h1,Zc h2,Zc h3,Zc h4,Zc h5];exact ⟨rfl,rfl⟩
theorem ZiY (s:Zh) (line:ByteArray) (h:Zz s) (hs:ZX s.t) (hr:ZL s):r32 (s.t,(line,()))=some ((bz (YZ UT s line.data.toList),()),()):=by
 unfold r32 m32 YZ;dsimp only;rw[eqW,eqW,eqW,eqW,eqW];generalize line.data.toList=l;have hf:s.pic.frames.length≤4398046511104:=hs.2.2.2.2.1.2.2.1;have hg:s.snd.samples.length≤4398046511104:=hs.2.2.2.2.2.2;by_cases h1:l=ZpF
 ·rw[ZC h1,Zb,Ze h1];have hw:r76 (s.t,())=some ((bz (ZoD (QS s)),()),()):=by
   unfold r76 m76;refine Za (Zhj s hs) ?_;unfold ZmG;rw[JX.2 h,Ze rfl];rcases ZoB s with e|e|e|e|e|e<;>rw[e]<;>rfl
  exact Za hw rfl
 rw[Zw h1,Zd,Zc h1];by_cases h2:l=Zps
 ·rw[ZC h2,Zb,Ze h2];exact Za (ZgO s.cpu.t) rfl
 rw[Zw h2,Zd,Zc h2];by_cases h3:l=Zh5
 ·rw[ZC h3,Zb,Ze h3];rw[Zr];exact Za (ZaB s.pic.frames.length (by omega)) rfl
 rw[Zw h3,Zd,Zc h3];by_cases h4:l=Ze2
 ·rw[ZC h4,Zb,Ze h4];rw[Zr];exact Za (ZaB s.snd.samples.length (by omega)) rfl
 rw[Zw h4,Zd,Zc h4];by_cases h5:l=Zk1
 ·rw[ZC h5,Zb,Ze h5];refine Za (ZfG s hs hr) ?_;cases WI s<;>rfl
 rw[Zw h5,Zd,Zc h5]
theorem ZdA (b:ByteArray) (hb:b.data.toList.length≤4000000) (most:Int):r29 (b,(most,()))=some (((J2 b.data.toList most).1,((J2 b.data.toList most).2,())),()):=by
 have h:Nat.ble (ByteArray.size b) 281474976710656=true:=by rw[Nat.ble_eq,Lib.size_eq];omega
 show (bif Nat.ble (ByteArray.size b) 281474976710656 then some (((J2 b.data.toList most).1,((J2 b.data.toList most).2,())),())else none)=_
 rw[h];rfl
theorem Zf9 (s:Zh) (who:Int) (h:Zz s) (hs:ZX s.t) (hr:ZL s):r27 (s.t,(who,()))=some (((Jm s who).t,(bz (Vw (J3 s who)),())),()):=by
 unfold r27 m27;have hp:=Zhi s who hs hr;unfold Js at hp;rw[JX.2 h,Ze rfl]at hp;refine Za hp ?_;cases J3 s who<;>rfl
theorem Zro: ∀(l:List UInt8) (hl:0<l.length),eqI ((l[0]).toNat:Int) 59=decide (l.head? =some 59)
 | [],hl=>absurd hl (by simp)
 |c::r,_=>by
  simp only[List.getElem_cons_zero,List.head?_cons,Zg];by_cases hc:c=59
  ·subst hc;rfl
  ·rw[Zw hc];exact Zi fun e=>hc (UInt8.toNat_inj.1 (by show _=59;omega))
theorem Znl (line:ByteArray) (h:line.data.toList≠ []):eqI (bt line 0) 59=decide (line.data.toList.head? =some 59):=by
 have hl:0<line.data.toList.length:=List.length_pos_iff.2 h;have e:=UZ line 0 hl;rw[show ((0:Nat):Int)=0 from rfl]at e;rw[e];exact Zro _ hl
theorem Zno (s:Zh) (line:ByteArray) (hl:line.data.toList.length≤4000000) (hs:ZX s.t) (hr:s.reads.length≤1048576):r12 (s.t,(line,()))=some (((doA s line.data.toList).1,(bz (doA s line.data.toList).2,())),()):=by
 have hroom:ZL s:=by unfold ZL;omega
 unfold r12 m12;refine Za (Vr s.t hs) ?_;unfold doA;cases hk:Z8 s.t with
 |false=>exact Za (U6 s.t hs) rfl
 |true=>
  have h:Zz s:=JX.1 hk;have hcp:r26 (line,(bz [102,97,105,114,32],()))=some ((bz (Lib.trimPrefix line.data.toList (KZ++[32])),(Lib.hasPrefix line.data.toList (KZ++[32]),())),()):=rfl;have same: ∀t:List UInt8,((r25 (s.t,())).bind fun r2=>some ((r2.1.1,(bz t,())),()))=some ((s.t,(bz t,())),()):=fun t=>Za (U6 s.t hs) rfl;have ask:((r25 (s.t,())).bind fun r2=>(r32 (s.t,(line,()))).bind fun r3=>some ((r2.1.1,r3.1),()))=some ((s.t,(bz (YZ UT s line.data.toList),())),()):=
   Za (U6 s.t hs) (Za (ZiY s line h hs hroom) rfl)
  rw[ZK,Zd,Ze rfl];refine Za hcp ?_;dsimp only;have hh:=Znl line;have hsz:(line.size:Int)=(line.data.toList.length:Int):=by rw[Lib.size_eq]
  rw[eqW,eqW,eqW,eqW,eqW,hsz];have hrd:=fun b:ByteArray=>ZdA b;generalize hL:line.data.toList=l at*;unfold doM;by_cases h0:l=[]
  ·rw[ZC h0,Zb,Ze (.inl h0)];exact same []
  rw[Zw h0,Zd,Zk (show (0:Int)< (l.length:Int) by have:=List.length_pos_iff.2 h0;omega),Zb,hh h0];by_cases h59:l.head? =some 59
  ·rw[ZC h59,Zb,Ze (.inr h59)];exact same []
  rw[Zw h59,Zd,Zc (by rintro (e|e);exact h0 e;exact h59 e)];by_cases h1:l=Um
  ·rw[ZC h1,Zb,Ze h1];exact Za (Zf9 s 0 h hs hroom) rfl
  rw[Zw h1,Zd,Zc h1];by_cases h2:l=WQ
  ·rw[ZC h2,Zb,Ze h2];exact Za (Zf9 s 1 h hs hroom) rfl
  rw[Zw h2,Zd,Zc h2];by_cases h3:l=WY
  ·rw[ZC h3,Zb,Ze h3];exact Za (Zf9 s 2 h hs hroom) rfl
  rw[Zw h3,Zd,Zc h3];by_cases h4:l=Zk6
  ·rw[ZC h4,Zb,Ze h4];have hv:=ZcR s hs hroom;unfold Yw at hv;rw[hk,Ze rfl]at hv;exact Za hv rfl
  rw[Zw h4,Zd,Zc h4];rcases Zjs KZ l (by decide)with ⟨hp,b,hb,ht⟩| ⟨hp,hn⟩
  ·rw[hp,Zb,hb,ht];have hbl:b.length≤4000000:=by
    have e:b=l.drop (KZ++[32]).length:=by rw[←ht];unfold Lib.trimPrefix;rw[hp,Ze rfl]
    rw[e,List.length_drop];omega
   refine Za (ZdA (bz b) hbl 999) ?_;rw[ZnC _ _ (by decide)];show (bif (if 0≤Zs b∧Zs b≤999 then (Zs b,true)else (0,false)).2 then _ else _)=_
   dsimp only;by_cases hq:0≤Zs b∧Zs b≤999
   ·rw[Ze hq,Zb,Ze ⟨rfl,hq⟩];have hfa:=Zl5 s (Zs b) hs hr;unfold WB at hfa;rw[hk,Ze rfl]at hfa;have hfn:(QB (Qy (Zs b)) s).2≤3000:=Nat.le_trans (Zft h).2.2 (K7 _);refine Za hfa ?_;exact Za (ZaB _ (by omega)) rfl
   ·rw[Zc hq,Zd,Zc (fun e=>hq e.2)];exact ask
  ·rw[hp,Zd];refine ask.trans ?_;cases hc:Jl l with
   |none=>rfl
   |some p=>
    have hw: ¬p.1=KZ:=fun e=>hn p.2 (by rw[hc,←e]);dsimp only;rw[Zc (fun e=>hw e.1)]
theorem Zkb (s:Zh) (line:ByteArray) (h:Zz s) (hs:ZX s.t) (hr:ZL s):r37 (s.t,(line,()))=some ((bz (YZ [] s line.data.toList),()),()):=by
 unfold r37 m37 YZ;dsimp only;rw[eqW,eqW,eqW,eqW,eqW];generalize line.data.toList=l;have hf:s.pic.frames.length≤4398046511104:=hs.2.2.2.2.1.2.2.1;have hg:s.snd.samples.length≤4398046511104:=hs.2.2.2.2.2.2;by_cases h1:l=ZpF
 ·rw[ZC h1,Zb,Ze h1];refine Za (Zeb s h) ?_;dsimp only;rcases ZoB s with e|e|e|e|e|e<;>rw[e]<;>rfl
 rw[Zw h1,Zd,Zc h1];by_cases h2:l=Zps
 ·rw[ZC h2,Zb,Ze h2];exact Za (ZgX s.cpu.t) rfl
 rw[Zw h2,Zd,Zc h2];by_cases h3:l=Zh5
 ·rw[ZC h3,Zb,Ze h3];rw[Zr];exact Za (ZaL s.pic.frames.length (by omega)) rfl
 rw[Zw h3,Zd,Zc h3];by_cases h4:l=Ze2
 ·rw[ZC h4,Zb,Ze h4];rw[Zr];exact Za (ZaL s.snd.samples.length (by omega)) rfl
 rw[Zw h4,Zd,Zc h4];by_cases h5:l=Zk1
 ·rw[ZC h5,Zb,Ze h5];refine Za (Zgr s hs hr) ?_;cases WI s<;>rfl
 rw[Zw h5,Zd,Zc h5]
abbrev Znz:List ByteArray:=[bz Um,bz WQ,bz WY]
theorem Zod (s:Zh) (who:Int) (h:Zz s) (hs:ZX s.t) (hr:ZL s):r38 (s.t,(who,()))=some (((Jm s who).t,(J3 s who,())),()):=by
 have hp:=ZhF s who hs hr;unfold Js at hp;rw[JX.2 h,Ze rfl]at hp;exact hp
theorem Zmj (s:Zh) (z:Tup QL) (line:ByteArray) (h:Zz s) (hs:ZX s.t) (hr:ZL s) (k:Nat):
  n14_0 r42 r39 r38 r36 r35 r41 r37 r43 r40 (k+4) (line,(Znz,())) (s.t,(z,())) ((0:Int),())=
   if line.data.toList=Um then some (Sum.inr (bz (Vw (J3 s 0)),()),(s.t,((Jm s 0).t,())))
   else if line.data.toList=WQ then some (Sum.inr (bz (Vw (J3 s 1)),()),(s.t,((Jm s 1).t,())))
   else if line.data.toList=WY then some (Sum.inr (bz (Vw (J3 s 2)),()),(s.t,((Jm s 2).t,())))
   else some (Sum.inl ((3:Int),()),(s.t,(z,()))):=by
 have go: ∀who:Int,((r38 (s.t,(who,()))).bind fun r0=>bif r0.1.2.1 then some ((Sum.inr (bz okT,()):Sum (PTup lv14_0) (PTup lr14_0)),(s.t,(r0.1.1,())))else some (Sum.inr (bz noT,()),(s.t,(r0.1.1,()))))=some (Sum.inr (bz (Vw (J3 s who)),()),(s.t,((Jm s who).t,()))):=fun who=>by
  refine Za (Zod s who h hs hr) ?_;cases J3 s who<;>rfl
 show (bif (line.toList==(bz Um).toList)then _ else (bif (line.toList==(bz WQ).toList)then _ else (bif (line.toList==(bz WY).toList)then _ else _)))=_
 rw[eqW,eqW,eqW];by_cases h1:line.data.toList=Um
 ·rw[ZC h1,Zb,Ze h1];exact go 0
 rw[Zw h1,Zd,Zc h1];by_cases h2:line.data.toList=WQ
 ·rw[ZC h2,Zb,Ze h2];exact go 1
 rw[Zw h2,Zd,Zc h2];by_cases h3:line.data.toList=WY
 ·rw[ZC h3,Zb,Ze h3];exact go 2
 rw[Zw h3,Zd,Zc h3];rfl
theorem Zof (s:Zh) (line:ByteArray) (hl:line.data.toList.length≤4000000) (hs:ZX s.t) (hr:s.reads.length≤1048576):r14 (s.t,(line,()))=some (((doA s line.data.toList).1,(bz (doA s line.data.toList).2,())),()):=by
 have hroom:ZL s:=by unfold ZL;omega
 unfold r14 m14;refine Za (Zi8 s hs hroom) (Za (Vc s.t hs) ?_);unfold doA;cases hk:Z8 s.t with
 |false=>rfl
 |true=>
  have h:Zz s:=JX.1 hk;rw[ZK,Zd,Ze rfl];dsimp only;have hh:=Znl line;have hsz:(line.size:Int)=(line.data.toList.length:Int):=by rw[Lib.size_eq]
  rw[eqW,hsz];by_cases h0:line.data.toList=[]
  ·rw[ZC h0,Zb];unfold doM;rw[Ze (.inl h0)]
  rw[Zw h0,Zd,Zk (show (0:Int)< (line.data.toList.length:Int) by have:=List.length_pos_iff.2 h0;omega),Zb,hh h0];by_cases h59:line.data.toList.head? =some 59
  ·rw[ZC h59,Zb];unfold doM;rw[Ze (.inr h59)]
  rw[Zw h59,Zd];refine Za (Zkb s line h hs hroom) ?_;show (bif !((bz (YZ [] s line.data.toList)).toList==(bz []).toList)then _ else _)=_
  rw[eqW];show (bif !decide (YZ [] s line.data.toList=[])then _ else _)=_
  rcases Zq8 s h line.data.toList with ⟨ha,hw⟩| ⟨ha,hw⟩
  ·rw[ZC ha,ZK,Zd];obtain ⟨k,hf⟩: ∃k,fuel=k+4:=⟨fuel-4,by have:=Z6;omega⟩;have hn:=fun z=>Zmj s z line h hs hroom k;have hn2:=fun z=>(show L14_0 (line,(Znz,())) (s.t,(z,())) ((0:Int),())=n14_0 r42 r39 r38 r36 r35 r41 r37 r43 r40 (k+4) (line,(Znz,())) (s.t,(z,())) ((0:Int),()) by unfold L14_0;rw[hf]).trans (hn z);unfold doM;rw[Zc (by rintro (e|e);exact h0 e;exact h59 e)];by_cases h1:line.data.toList=Um
   ·rw[Ze h1];simp only[Ze h1]at hn2;exact Za (hn2 _) rfl
   rw[Zc h1];by_cases h2:line.data.toList=WQ
   ·rw[Ze h2];simp only[Zc h1,Ze h2]at hn2;exact Za (hn2 _) rfl
   rw[Zc h2];by_cases h3:line.data.toList=WY
   ·rw[Ze h3];simp only[Zc h1,Zc h2,Ze h3]at hn2;exact Za (hn2 _) rfl
   rw[Zc h3];simp only[Zc h1,Zc h2,Zc h3]at hn2;refine Za (hn2 _) ?_;show (bif (line.toList==(bz Zk6).toList)then _ else _)=_
   rw[eqW];by_cases h4:line.data.toList=Zk6
   ·rw[ZC h4,Zb,Ze h4];have hv:=ZbH s hs hroom;unfold Yw at hv;rw[hk,Ze rfl]at hv;exact Za hv rfl
   rw[Zw h4,Zd,Zc h4];refine Za (Zi9 line hl) ?_;unfold Zpc;cases hc:Jl line.data.toList with
   |none=>
    show (bif (line.toList==(bz KZ).toList)then _ else _)=_
    rw[eqW];by_cases h5:line.data.toList=KZ
    ·rw[ZC h5,Zb,JV,hw];rfl
    ·rw[Zw h5,Zd,hw]
   |some p=>
    obtain ⟨w,b⟩:=p;show (bif leI 0 (Zs b)then (bif ((bz w).toList==(bz KZ).toList)then _ else _)else _)=_
    rw[eqW];show (bif leI 0 (Zs b)then (bif decide (w=KZ)then _ else _)else _)=_
    by_cases hq:0≤Zs b
    ·rw[Zq hq,Zb];by_cases hwf:w=KZ
     ·rw[ZC hwf,Zb,JV,Zo];show (bif (leI 0 (Zs b)&&leI (Zs b) 999)then _ else _)=_
      rw[Zq hq,Bool.true_and];by_cases hq2:Zs b≤999
      ·rw[Zq hq2,Zb];dsimp only;rw[Ze ⟨hwf,hq,hq2⟩];have hfa:=Zmy s (Zs b) hs hr;unfold WB at hfa;rw[hk,Ze rfl]at hfa;have hfn:(QB (Qy (Zs b)) s).2≤3000:=Nat.le_trans (Zft h).2.2 (K7 _);exact Za hfa (Za (ZaL _ (by omega)) rfl)
      ·rw[J0 hq2,Zd];dsimp only;rw[Zc (fun e=>hq2 e.2.2),hw]
     ·rw[Zw hwf,Zd];dsimp only;rw[Zc (fun e=>hwf e.1),hw]
    ·rw[J0 hq,Zd];dsimp only;rw[Zc (fun e=>hq e.2.1),hw]
  ·rw[Zw ha,QF,Zb,hw]

end Go.Proofs.YtcbdldlphpjmbaaGreatDoor.Plain
