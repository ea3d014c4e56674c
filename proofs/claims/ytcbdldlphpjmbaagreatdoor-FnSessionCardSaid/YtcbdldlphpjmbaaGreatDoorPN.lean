/- Plain laws of the printed functions: Desk, Desk2. No condition beyond those that each lemma states. -/
import Derived.Test.YtcbdldlphpjmbaaGreatDoorPM
set_option linter.unusedVariables false
set_option linter.unusedSimpArgs false
namespace Go.Proofs.YtcbdldlphpjmbaaGreatDoor.Plain
open Go Go.Tev
abbrev ZpU:List UInt8:=[119,97,105,116]
abbrev ZpI:List UInt8:=[115,104,111,119]
abbrev Zie:List UInt8:=[102,114,97,109,101,115]
abbrev Ze8:List UInt8:=[115,97,109,112,108,101,115]
abbrev Zlg:List UInt8:=[106,117,100,103,101]
abbrev Uu:List UInt8:=[99,112,117]
abbrev WW:List UInt8:=[112,105,99,116,117,114,101]
abbrev W7:List UInt8:=[115,111,117,110,100]
abbrev Zll:List UInt8:=[108,101,118,101,108]
abbrev K2:List UInt8:=[102,97,105,114]
abbrev okT:List UInt8:=[111,107]
abbrev noT:List UInt8:=[110,111]
abbrev ZsX:List UInt8:=[121,101,115]
abbrev U1:List UInt8:=[119,104,97,116]
abbrev ZsP:List UInt8:=[98,97,100]
abbrev Zso:List UInt8:=[110,111,110,101]
abbrev Zsw:List UInt8:=[114,111,111,109]
abbrev Zst:List UInt8:=[111,118,101,114]
def VA (b:Bool):List UInt8:=bif b then okT else noT
def ZpX (b:Bool):List UInt8:=bif b then ZsX else noT
def ZoS (n:Int):List UInt8:=if n=0 then Zso else if n=1 then WW else if n=2 then W7 else if n=5 then Zst else Zsw
theorem ZoQ (s:Zh):QU s=0∨QU s=1∨QU s=2∨QU s=3∨QU s=4∨QU s=5:=by
 have o: ∀n,YU s n=0∨YU s n=5:=fun n=>by unfold YU;split<;>omega
 have o1:=o 7;have o2:=o (Qs (opS s));unfold QU
 repeat' split
 all_goals omega
def Y2 (d:List UInt8) (s:Zh) (l:List UInt8):List UInt8:=
 if l=ZpU then ZoS (QU s)
 else if l=ZpI then K1 s.cpu.t
 else if l=Zie then Lib.decDigits s.pic.frames.length
 else if l=Ze8 then Lib.decDigits s.snd.samples.length
 else if l=Zlg then ZpX (WN s)
 else d
def doM (s:Zh) (l:List UInt8):Zh×List UInt8:=
 if l=[]∨l.head? =some 59 then (s,[])
 else if l=Uu then (Jm s 0,VA (J3 s 0))
 else if l=WW then (Jm s 1,VA (J3 s 1))
 else if l=W7 then (Jm s 2,VA (J3 s 2))
 else if l=Zll then (ZW s,okT)
 else match Jl l with
  |none=>(s,Y2 U1 s l)
  |some p=>if p.1=K2∧0≤Zu p.2∧Zu p.2≤999 then ((QB (Qy (Zu p.2)) s).1,Lib.decDigits (QB (Qy (Zu p.2)) s).2)else (s,Y2 U1 s l)
theorem Zse {s:Zh} (h:ZA s) (l:List UInt8):ZA (doM s l).1∧(doM s l).1.reads.length≤s.reads.length+999:=by
 have same:ZA s∧s.reads.length≤s.reads.length+999:=⟨h,by omega⟩;have pk: ∀who,ZA (Jm s who)∧(Jm s who).reads.length≤s.reads.length+999:=fun who=>by
  obtain ⟨a,b⟩:=Zjx h who;exact ⟨a,by omega⟩
 unfold doM;split
 ·exact same
 split
 ·exact pk 0
 split
 ·exact pk 1
 split
 ·exact pk 2
 split
 ·exact ⟨(Zdy h).1,by show (ZW s).reads.length≤_;unfold ZW;exact Nat.le_add_right _ _⟩
 split
 ·exact same
 ·rename_i p _;split
  ·rename_i hp;obtain ⟨a,b,_⟩:=Zfz (n:=Qy (Zu p.2)) h;have:Qy (Zu p.2)≤999:=by unfold Qy;split<;>omega
   exact ⟨a,by dsimp only;omega⟩
  ·exact same
def doA (s:Zh) (l:List UInt8):Tup QM×List UInt8:=if Qb s.t then ((doM s l).1.t,(doM s l).2)else (s.t,ZsP)
theorem Zp1 (n:Nat):Lib.decDigits n≠ []:=by
 rw[Uv];split
 ·simp
 ·simp
theorem ZpT (n:Int):ZoS n≠ []:=by
 unfold ZoS
 repeat' split
 all_goals simp
theorem ZpY (b:Bool):ZpX b≠ []:=by cases b<;>simp[ZpX]
theorem Zru {s:Zh} (h:ZA s):Yq s.cpu.t=true:=by
 have:=JX.2 h;unfold Qb Zbq at this;simp only[Bool.and_eq_true]at this
 first
  |exact this.1.2.2.1
  |exact this.2.2.2.1
  |exact this.2.2.1
theorem Zqw {s:Zh} (h:ZA s):K1 s.cpu.t≠ []:=fun e=>by
 have:=Zke s.cpu.t;rw[ZB e,Zru h]at this;cases this
theorem Zro (s:Zh) (h:ZA s) (l:List UInt8):(Y2 [] s l=[]∧Y2 U1 s l=U1)∨(Y2 [] s l≠ []∧doM s l=(s,Y2 [] s l)):=by
 by_cases h1:l=ZpU
 ·subst h1;exact .inr ⟨ZpT _,rfl⟩
 by_cases h2:l=ZpI
 ·subst h2;exact .inr ⟨Zqw h,rfl⟩
 by_cases h3:l=Zie
 ·subst h3;exact .inr ⟨Zp1 _,rfl⟩
 by_cases h4:l=Ze8
 ·subst h4;exact .inr ⟨Zp1 _,rfl⟩
 by_cases h5:l=Zlg
 ·subst h5;exact .inr ⟨ZpY _,rfl⟩
 left;unfold Y2;rw[Zc h1,Zc h2,Zc h3,Zc h4,Zc h5,Zc h1,Zc h2,Zc h3,Zc h4,Zc h5];exact ⟨rfl,rfl⟩
theorem Zi6 (s:Zh) (line:ByteArray) (h:ZA s) (hs:ZU s.t) (hr:ZN s):r32 (s.t,(line,()))=some ((bz (Y2 U1 s line.data.toList),()),()):=by
 unfold r32 m32 Y2;dsimp only;rw[eqW,eqW,eqW,eqW,eqW];generalize line.data.toList=l;have hf:s.pic.frames.length≤4398046511104:=hs.2.2.2.2.1.2.2.1;have hg:s.snd.samples.length≤4398046511104:=hs.2.2.2.2.2.2;by_cases h1:l=ZpU
 ·rw[ZB h1,Zb,Ze h1];have hw:r76 (s.t,())=some ((bz (ZoS (QU s)),()),()):=by
   unfold r76 m76;refine Za (Zhr s hs) ?_;unfold ZmV;rw[JX.2 h,Ze rfl];rcases ZoQ s with e|e|e|e|e|e<;>rw[e]<;>rfl
  exact Za hw rfl
 rw[Zw h1,Zd,Zc h1];by_cases h2:l=ZpI
 ·rw[ZB h2,Zb,Ze h2];exact Za (ZgU s.cpu.t) rfl
 rw[Zw h2,Zd,Zc h2];by_cases h3:l=Zie
 ·rw[ZB h3,Zb,Ze h3];rw[Zs];exact Za (ZaC s.pic.frames.length (by omega)) rfl
 rw[Zw h3,Zd,Zc h3];by_cases h4:l=Ze8
 ·rw[ZB h4,Zb,Ze h4];rw[Zs];exact Za (ZaC s.snd.samples.length (by omega)) rfl
 rw[Zw h4,Zd,Zc h4];by_cases h5:l=Zlg
 ·rw[ZB h5,Zb,Ze h5];refine Za (ZfN s hs hr) ?_;cases WN s<;>rfl
 rw[Zw h5,Zd,Zc h5]
theorem ZdG (b:ByteArray) (hb:b.data.toList.length≤4000000) (most:Int):r29 (b,(most,()))=some (((J2 b.data.toList most).1,((J2 b.data.toList most).2,())),()):=by
 have h:Nat.ble (ByteArray.size b) 281474976710656=true:=by rw[Nat.ble_eq,Lib.size_eq];omega
 show (bif Nat.ble (ByteArray.size b) 281474976710656 then some (((J2 b.data.toList most).1,((J2 b.data.toList most).2,())),())else none)=_
 rw[h];rfl
theorem Zgg (s:Zh) (who:Int) (h:ZA s) (hs:ZU s.t) (hr:ZN s):r27 (s.t,(who,()))=some (((Jm s who).t,(bz (VA (J3 s who)),())),()):=by
 unfold r27 m27;have hp:=Zhq s who hs hr;unfold Js at hp;rw[JX.2 h,Ze rfl]at hp;refine Za hp ?_;cases J3 s who<;>rfl
theorem ZrH: ∀(l:List UInt8) (hl:0<l.length),eqI ((l[0]).toNat:Int) 59=decide (l.head? =some 59)
 | [],hl=>absurd hl (by simp)
 |c::r,_=>by
  simp only[List.getElem_cons_zero,List.head?_cons,Zg];by_cases hc:c=59
  ·subst hc;rfl
  ·rw[Zw hc];exact Zi fun e=>hc (UInt8.toNat_inj.1 (by show _=59;omega))
theorem Znz (line:ByteArray) (h:line.data.toList≠ []):eqI (bt line 0) 59=decide (line.data.toList.head? =some 59):=by
 have hl:0<line.data.toList.length:=List.length_pos_iff.2 h;have e:=Wy line 0 hl;rw[show ((0:Nat):Int)=0 from rfl]at e;rw[e];exact ZrH _ hl
theorem ZfM (s:Zh) (line:ByteArray) (hl:line.data.toList.length≤4000000) (hs:ZU s.t) (hr:s.reads.length≤1048576):r12 (s.t,(line,()))=some (((doA s line.data.toList).1,(bz (doA s line.data.toList).2,())),()):=by
 have hroom:ZN s:=by unfold ZN;omega
 unfold r12 m12;refine Za (Vt s.t hs) ?_;unfold doA;cases hk:Qb s.t with
 |false=>exact Za (Zae s.t hs) rfl
 |true=>
  have h:ZA s:=JX.1 hk;have hcp:r26 (line,(bz [102,97,105,114,32],()))=some ((bz (Lib.trimPrefix line.data.toList (K2++[32])),(Lib.hasPrefix line.data.toList (K2++[32]),())),()):=rfl;have same: ∀t:List UInt8,((r25 (s.t,())).bind fun r2=>some ((r2.1.1,(bz t,())),()))=some ((s.t,(bz t,())),()):=fun t=>Za (Zae s.t hs) rfl;have ask:((r25 (s.t,())).bind fun r2=>(r32 (s.t,(line,()))).bind fun r3=>some ((r2.1.1,r3.1),()))=some ((s.t,(bz (Y2 U1 s line.data.toList),())),()):=
   Za (Zae s.t hs) (Za (Zi6 s line h hs hroom) rfl)
  rw[ZM,Zd,Ze rfl];refine Za hcp ?_;dsimp only;have hh:=Znz line;have hsz:(line.size:Int)=(line.data.toList.length:Int):=by rw[Lib.size_eq]
  rw[eqW,eqW,eqW,eqW,eqW,hsz];have hrd:=fun b:ByteArray=>ZdG b;generalize hL:line.data.toList=l at*;unfold doM;by_cases h0:l=[]
  ·rw[ZB h0,Zb,Ze (.inl h0)];exact same []
  rw[Zw h0,Zd,Zl (show (0:Int)< (l.length:Int) by have:=List.length_pos_iff.2 h0;omega),Zb,hh h0];by_cases h59:l.head? =some 59
  ·rw[ZB h59,Zb,Ze (.inr h59)];exact same []
  rw[Zw h59,Zd,Zc (by rintro (e|e);exact h0 e;exact h59 e)];by_cases h1:l=Uu
  ·rw[ZB h1,Zb,Ze h1];exact Za (Zgg s 0 h hs hroom) rfl
  rw[Zw h1,Zd,Zc h1];by_cases h2:l=WW
  ·rw[ZB h2,Zb,Ze h2];exact Za (Zgg s 1 h hs hroom) rfl
  rw[Zw h2,Zd,Zc h2];by_cases h3:l=W7
  ·rw[ZB h3,Zb,Ze h3];exact Za (Zgg s 2 h hs hroom) rfl
  rw[Zw h3,Zd,Zc h3];by_cases h4:l=Zll
  ·rw[ZB h4,Zb,Ze h4];have hv:=ZcY s hs hroom;unfold Yx at hv;rw[hk,Ze rfl]at hv;exact Za hv rfl
  rw[Zw h4,Zd,Zc h4];rcases ZjC K2 l (by decide)with ⟨hp,b,hb,ht⟩| ⟨hp,hn⟩
  ·rw[hp,Zb,hb,ht];have hbl:b.length≤4000000:=by
    have e:b=l.drop (K2++[32]).length:=by rw[←ht];unfold Lib.trimPrefix;rw[hp,Ze rfl]
    rw[e,List.length_drop];omega
   refine Za (ZdG (bz b) hbl 999) ?_;rw[ZnQ _ _ (by decide)];show (bif (if 0≤Zu b∧Zu b≤999 then (Zu b,true)else (0,false)).2 then _ else _)=_
   dsimp only;by_cases hq:0≤Zu b∧Zu b≤999
   ·rw[Ze hq,Zb,Ze ⟨rfl,hq⟩];have hfa:=Zml s (Zu b) hs hr;unfold WG at hfa;rw[hk,Ze rfl]at hfa;have hfn:(QB (Qy (Zu b)) s).2≤3000:=Nat.le_trans (Zfz h).2.2 (Va _);refine Za hfa ?_;exact Za (ZaC _ (by omega)) rfl
   ·rw[Zc hq,Zd,Zc (fun e=>hq e.2)];exact ask
  ·rw[hp,Zd];refine ask.trans ?_;cases hc:Jl l with
   |none=>rfl
   |some p=>
    have hw: ¬p.1=K2:=fun e=>hn p.2 (by rw[hc,←e]);dsimp only;rw[Zc (fun e=>hw e.1)]
theorem Zko (s:Zh) (line:ByteArray) (h:ZA s) (hs:ZU s.t) (hr:ZN s):r37 (s.t,(line,()))=some ((bz (Y2 [] s line.data.toList),()),()):=by
 unfold r37 m37 Y2;dsimp only;rw[eqW,eqW,eqW,eqW,eqW];generalize line.data.toList=l;have hf:s.pic.frames.length≤4398046511104:=hs.2.2.2.2.1.2.2.1;have hg:s.snd.samples.length≤4398046511104:=hs.2.2.2.2.2.2;by_cases h1:l=ZpU
 ·rw[ZB h1,Zb,Ze h1];refine Za (Zeh s h) ?_;dsimp only;rcases ZoQ s with e|e|e|e|e|e<;>rw[e]<;>rfl
 rw[Zw h1,Zd,Zc h1];by_cases h2:l=ZpI
 ·rw[ZB h2,Zb,Ze h2];exact Za (Zg4 s.cpu.t) rfl
 rw[Zw h2,Zd,Zc h2];by_cases h3:l=Zie
 ·rw[ZB h3,Zb,Ze h3];rw[Zs];exact Za (ZaN s.pic.frames.length (by omega)) rfl
 rw[Zw h3,Zd,Zc h3];by_cases h4:l=Ze8
 ·rw[ZB h4,Zb,Ze h4];rw[Zs];exact Za (ZaN s.snd.samples.length (by omega)) rfl
 rw[Zw h4,Zd,Zc h4];by_cases h5:l=Zlg
 ·rw[ZB h5,Zb,Ze h5];refine Za (Zgx s hs hr) ?_;cases WN s<;>rfl
 rw[Zw h5,Zd,Zc h5]
abbrev ZnN:List ByteArray:=[bz Uu,bz WW,bz W7]
theorem Zor (s:Zh) (who:Int) (h:ZA s) (hs:ZU s.t) (hr:ZN s):r38 (s.t,(who,()))=some (((Jm s who).t,(J3 s who,())),()):=by
 have hp:=ZhO s who hs hr;unfold Js at hp;rw[JX.2 h,Ze rfl]at hp;exact hp
theorem Zmz (s:Zh) (z:Tup QM) (line:ByteArray) (h:ZA s) (hs:ZU s.t) (hr:ZN s) (k:Nat):
  n14_0 r42 r39 r38 r36 r35 r41 r37 r43 r40 (k+4) (line,(ZnN,())) (s.t,(z,())) ((0:Int),())=
   if line.data.toList=Uu then some (Sum.inr (bz (VA (J3 s 0)),()),(s.t,((Jm s 0).t,())))
   else if line.data.toList=WW then some (Sum.inr (bz (VA (J3 s 1)),()),(s.t,((Jm s 1).t,())))
   else if line.data.toList=W7 then some (Sum.inr (bz (VA (J3 s 2)),()),(s.t,((Jm s 2).t,())))
   else some (Sum.inl ((3:Int),()),(s.t,(z,()))):=by
 have go: ∀who:Int,((r38 (s.t,(who,()))).bind fun r0=>bif r0.1.2.1 then some ((Sum.inr (bz okT,()):Sum (PTup lv14_0) (PTup lr14_0)),(s.t,(r0.1.1,())))else some (Sum.inr (bz noT,()),(s.t,(r0.1.1,()))))=some (Sum.inr (bz (VA (J3 s who)),()),(s.t,((Jm s who).t,()))):=fun who=>by
  refine Za (Zor s who h hs hr) ?_;cases J3 s who<;>rfl
 show (bif (line.toList==(bz Uu).toList)then _ else (bif (line.toList==(bz WW).toList)then _ else (bif (line.toList==(bz W7).toList)then _ else _)))=_
 rw[eqW,eqW,eqW];by_cases h1:line.data.toList=Uu
 ·rw[ZB h1,Zb,Ze h1];exact go 0
 rw[Zw h1,Zd,Zc h1];by_cases h2:line.data.toList=WW
 ·rw[ZB h2,Zb,Ze h2];exact go 1
 rw[Zw h2,Zd,Zc h2];by_cases h3:line.data.toList=W7
 ·rw[ZB h3,Zb,Ze h3];exact go 2
 rw[Zw h3,Zd,Zc h3];rfl
theorem Zot (s:Zh) (line:ByteArray) (hl:line.data.toList.length≤4000000) (hs:ZU s.t) (hr:s.reads.length≤1048576):r14 (s.t,(line,()))=some (((doA s line.data.toList).1,(bz (doA s line.data.toList).2,())),()):=by
 have hroom:ZN s:=by unfold ZN;omega
 unfold r14 m14;refine Za (Zjf s hs hroom) (Za (Vf s.t hs) ?_);unfold doA;cases hk:Qb s.t with
 |false=>rfl
 |true=>
  have h:ZA s:=JX.1 hk;rw[ZM,Zd,Ze rfl];dsimp only;have hh:=Znz line;have hsz:(line.size:Int)=(line.data.toList.length:Int):=by rw[Lib.size_eq]
  rw[eqW,hsz];by_cases h0:line.data.toList=[]
  ·rw[ZB h0,Zb];unfold doM;rw[Ze (.inl h0)]
  rw[Zw h0,Zd,Zl (show (0:Int)< (line.data.toList.length:Int) by have:=List.length_pos_iff.2 h0;omega),Zb,hh h0];by_cases h59:line.data.toList.head? =some 59
  ·rw[ZB h59,Zb];unfold doM;rw[Ze (.inr h59)]
  rw[Zw h59,Zd];refine Za (Zko s line h hs hroom) ?_;show (bif !((bz (Y2 [] s line.data.toList)).toList==(bz []).toList)then _ else _)=_
  rw[eqW];show (bif !decide (Y2 [] s line.data.toList=[])then _ else _)=_
  rcases Zro s h line.data.toList with ⟨ha,hw⟩| ⟨ha,hw⟩
  ·rw[ZB ha,ZM,Zd];obtain ⟨k,hf⟩: ∃k,fuel=k+4:=⟨fuel-4,by have:=ZZ;omega⟩;have hn:=fun z=>Zmz s z line h hs hroom k;have hn2:=fun z=>(show L14_0 (line,(ZnN,())) (s.t,(z,())) ((0:Int),())=n14_0 r42 r39 r38 r36 r35 r41 r37 r43 r40 (k+4) (line,(ZnN,())) (s.t,(z,())) ((0:Int),()) by unfold L14_0;rw[hf]).trans (hn z);unfold doM;rw[Zc (by rintro (e|e);exact h0 e;exact h59 e)];by_cases h1:line.data.toList=Uu
   ·rw[Ze h1];simp only[Ze h1]at hn2;exact Za (hn2 _) rfl
   rw[Zc h1];by_cases h2:line.data.toList=WW
   ·rw[Ze h2];simp only[Zc h1,Ze h2]at hn2;exact Za (hn2 _) rfl
   rw[Zc h2];by_cases h3:line.data.toList=W7
   ·rw[Ze h3];simp only[Zc h1,Zc h2,Ze h3]at hn2;exact Za (hn2 _) rfl
   rw[Zc h3];simp only[Zc h1,Zc h2,Zc h3]at hn2;refine Za (hn2 _) ?_;show (bif (line.toList==(bz Zll).toList)then _ else _)=_
   rw[eqW];by_cases h4:line.data.toList=Zll
   ·rw[ZB h4,Zb,Ze h4];have hv:=ZbM s hs hroom;unfold Yx at hv;rw[hk,Ze rfl]at hv;exact Za hv rfl
   rw[Zw h4,Zd,Zc h4];refine Za (Zji line hl) ?_;unfold Zps;cases hc:Jl line.data.toList with
   |none=>
    show (bif (line.toList==(bz K2).toList)then _ else _)=_
    rw[eqW];by_cases h5:line.data.toList=K2
    ·rw[ZB h5,Zb,JV,hw];rfl
    ·rw[Zw h5,Zd,hw]
   |some p=>
    obtain ⟨w,b⟩:=p;show (bif leI 0 (Zu b)then (bif ((bz w).toList==(bz K2).toList)then _ else _)else _)=_
    rw[eqW];show (bif leI 0 (Zu b)then (bif decide (w=K2)then _ else _)else _)=_
    by_cases hq:0≤Zu b
    ·rw[Zp hq,Zb];by_cases hwf:w=K2
     ·rw[ZB hwf,Zb,JV,Zo];show (bif (leI 0 (Zu b)&&leI (Zu b) 999)then _ else _)=_
      rw[Zp hq,Bool.true_and];by_cases hq2:Zu b≤999
      ·rw[Zp hq2,Zb];dsimp only;rw[Ze ⟨hwf,hq,hq2⟩];have hfa:=ZmN s (Zu b) hs hr;unfold WG at hfa;rw[hk,Ze rfl]at hfa;have hfn:(QB (Qy (Zu b)) s).2≤3000:=Nat.le_trans (Zfz h).2.2 (Va _);exact Za hfa (Za (ZaN _ (by omega)) rfl)
      ·rw[JG hq2,Zd];dsimp only;rw[Zc (fun e=>hq2 e.2.2),hw]
     ·rw[Zw hwf,Zd];dsimp only;rw[Zc (fun e=>hwf e.1),hw]
    ·rw[JG hq,Zd];dsimp only;rw[Zc (fun e=>hq e.2.1),hw]
  ·rw[Zw ha,QE,Zb,hw]

end Go.Proofs.YtcbdldlphpjmbaaGreatDoor.Plain
