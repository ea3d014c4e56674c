/- Plain laws of the printed functions: Sess, Sess2. No condition beyond those that each lemma states. -/
import Derived.Test.YtcbdldlphpjmbaaGreatDoorPO
set_option linter.unusedVariables false
set_option linter.unusedSimpArgs false
namespace Go.Proofs.YtcbdldlphpjmbaaGreatDoor.Plain
open Go Go.Tev
def YI (out said:List UInt8):List UInt8:=if said=[]then out else out++(said++[10])
def Wk:Zh→List (List UInt8)→List UInt8→List UInt8
 |_,[],out=>out
 |s,l::r,out=>Wk (doM s l).1 r (YI out (doM s l).2)
def UU (t:List UInt8) (p:List Int) (cap:Int) (lines:List UInt8):List UInt8×Int:=
 if (XK t p cap).2=0 then (if 80< (QG lines).length then ([],-2)else (Wk (Vy [(QH t).1] p cap) (QG lines) [],((QG lines).length:Int)))else ([],-1)
theorem Zc3 {t:List UInt8} {p:List Int} {cap:Int} (h:(XK t p cap).2=0):XK t p cap=((Vy [(QH t).1] p cap).t,0)∧ZA (Vy [(QH t).1] p cap):=by
 unfold XK at h⊢;by_cases h0:(QH t).2=0
 ·rw[Ze h0]at h⊢;cases hk:XD [(QH t).1] p cap
  ·rw[hk]at h;cases h
  ·obtain ⟨h1,h2,h3⟩:=ZaO.1 hk;exact ⟨rfl,Zp6 h1 h2 h3⟩
 ·rw[Zc h0]at h;exact absurd h h0
theorem Zdh: ∀(k n:Nat),n≤k→(Lib.decDigits n).length≤n+1
 |0,n,h=>by
  obtain rfl:n=0:=by omega
  rw[Uv];simp
 |k+1,n,h=>by
  rw[Uv];split
  ·simp
  ·have:=Zdh k (n/10) (by omega);rw[List.length_append,List.length_singleton];omega
theorem Zk1 {s:Zh} (hs:ZU s.t) (l:List UInt8):(Y2 U1 s l).length≤4398046511200:=by
 obtain ⟨_,_,_,_,⟨_,_,hfr⟩,_,hsm⟩:=(ZoB s).1 hs;have hfr:=hfr.1;have d1:=Zdh _ s.pic.frames.length (Nat.le_refl _);have d2:=Zdh _ s.snd.samples.length (Nat.le_refl _);unfold Y2;split
 ·unfold ZoS
  repeat' split
  all_goals simp
 split
 ·unfold K1;split
  ·rename_i hc;obtain ⟨⟨_,a1⟩,⟨_,a2⟩,⟨_,a3⟩,_,a4⟩:=Zkd hc;have b1:=Kz (n:=s.cpu.t.1) (Int.le_trans a1 (by decide));have b2:=Kz (n:=s.cpu.t.2.1) (Int.le_trans a2 (by decide));have b3:=Kz (n:=s.cpu.t.2.2.1) (Int.le_trans a3 (by decide));have b4:=Kz (n:=s.cpu.t.2.2.2.1) (Int.le_trans a4 (by decide));have b5:(Zsf s.cpu.t.2.2.2.2.2.2.1 s.cpu.t.2.2.2.2.1 s.cpu.t.2.2.2.2.2.2.2.1 s.cpu.t.2.2.2.2.2.1).length≤10:=by
    generalize s.cpu.t.2.2.2.2.2.2.1=a;generalize s.cpu.t.2.2.2.2.1=b;generalize s.cpu.t.2.2.2.2.2.2.2.1=c;generalize s.cpu.t.2.2.2.2.2.1=d;revert a b c d;decide
   simp only[List.length_append,List.length_cons,List.length_nil];omega
  ·simp
 split
 ·omega
 split
 ·omega
 split
 ·unfold ZpX;cases WN s<;>simp
 ·simp
theorem ZpQ {s:Zh} (h:ZA s) (hs:ZU s.t) (l:List UInt8):(doM s l).2.length≤4398046511200:=by
 have pk: ∀b:Bool,(VA b).length≤4398046511200:=fun b=>by cases b<;>simp[VA]
 unfold doM;split
 ·simp
 split
 ·exact pk _
 split
 ·exact pk _
 split
 ·exact pk _
 split
 ·simp
 split
 ·exact Zk1 hs l
 ·rename_i p _;split
  ·obtain ⟨_,_,c⟩:=Zfz (n:=Qy (Zu p.2)) h;have hm:Qy (Zu p.2)≤3001:=by unfold Qy;split<;>omega
   have d:=Zdh _ (QB (Qy (Zu p.2)) s).2 (Nat.le_refl _);dsimp only;omega
  ·exact Zk1 hs l
theorem ZpH {out said:List UInt8} {n K:Nat} (h:said.length+1≤K) (ho:out.length≤n*K):(YI out said).length≤(n+1)*K:=by
 rw[Nat.succ_mul];unfold YI;split
 ·omega
 ·rw[List.length_append,List.length_append,List.length_singleton];omega
theorem Zsy (l:List UInt8) (Q:Nat→Nat→Nat→List (List UInt8)→Prop)
  (hskip: ∀k i f rest (h:i<l.length),f≤i→ ¬l[i]=10→Q k (i+1) f rest→Q (k+1) i f rest)
  (hline: ∀k i f rest (h:i<l.length),f≤i→l[i]=10→Q k (i+1) (i+1) rest→Q (k+1) i f ((l.drop f).take (i-f)::rest))
  (hlast: ∀k f,f<l.length→Q k (l.length+1) (l.length+1) []→Q (k+1) l.length f [(l.drop f).take (l.length-f)])
  (hend: ∀k,Q k (l.length+1) l.length []→Q (k+1) l.length l.length [])
  (hfin: ∀k f,Q (k+1) (l.length+1) f []):
  ∀(k i f:Nat),f≤i→i≤l.length+1→(i=l.length+1→l.length≤f)→l.length+1-i<k→ ¬(10:UInt8)∈(l.drop f).take (i-f)→Q k i f (QG (l.drop f))
 |0,_,_,_,_,_,h,_=>absurd h (by omega)
 |k+1,i,f,hf,hi,hl,hk,hno=>by
  have ih:=fun i' f' h1 h2 h3 h4 h5=>Zsy l Q hskip hline hlast hend hfin k i' f' h1 h2 h3 h4 h5;by_cases hlt:i<l.length
  ·by_cases h10:l[i]=10
   ·have e3:l.drop f=(l.drop f).take (i-f)++10::l.drop (i+1):=by
     have e4:(l.drop f).drop (i-f)=10::l.drop (i+1):=by
      rw[List.drop_drop,show f+(i-f)=i by omega,J0 hlt,h10]
     rw[←e4,List.take_append_drop]
    have e5:QG (l.drop f)=(l.drop f).take (i-f)::QG (l.drop (i+1)):=by
     conv=>lhs;rw[e3]
     exact Zej _ hno
    rw[e5];exact hline k i f _ hlt hf h10 (ih (i+1) (i+1) (Nat.le_refl _) (by omega) (fun _=>by omega) (by omega) (by simp))
   ·refine hskip k i f _ hlt hf h10 (ih (i+1) f (by omega) (by omega) (fun _=>by omega) (by omega) ?_);rw[Zj1 hf hlt];intro e;rcases List.mem_append.1 e with e|e
    ·exact hno e
    ·exact h10 (List.mem_singleton.1 e).symm
  ·by_cases he:i=l.length
   ·subst he;have etake:(l.drop f).take (l.length-f)=l.drop f:=List.take_of_length_le (by rw[List.length_drop];omega);by_cases hfe:f=l.length
    ·subst hfe;have e0:QG (l.drop l.length)=[]:=by rw[List.drop_length];rfl
     rw[e0];refine hend k ?_;have:=ih (l.length+1) l.length (by omega) (by omega) (fun _=>Nat.le_refl _) (by omega) (by rw[List.drop_length];simp);rw[e0]at this;exact this
    ·have e1:QG (l.drop f)=[(l.drop f).take (l.length-f)]:=by
      rw[etake]at hno⊢;rw[Zc1 hno,Zc (fun e=>by have:=congrArg List.length e;rw[List.length_drop,List.length_nil]at this;omega)]
     rw[e1];refine hlast k f (by omega) ?_;have:=ih (l.length+1) (l.length+1) (Nat.le_refl _) (by omega) (fun _=>by omega) (by omega) (by simp);rw[List.drop_of_length_le (show l.length≤l.length+1 by omega)]at this;exact this
   ·obtain rfl:i=l.length+1:=by omega
    rw[List.drop_of_length_le (hl rfl)];exact hfin k f
theorem Zk3 {s:Zh} (h:ZA s) (l:List UInt8):doA s l=((doM s l).1.t,(doM s l).2):=by
 unfold doA;rw[Ze (JX.2 h)]
theorem Ze9 {s:Zh} {out l:List UInt8} {i:Nat} (hi:i<80) (h:ZA s) (hr:s.reads.length≤i*999) (ho:out.length≤i*4398046511201):
  ZA (doM s l).1∧(doM s l).1.reads.length≤(i+1)*999∧(YI out (doM s l).2).length≤(i+1)*4398046511201∧(doM s l).2.length≤4398046511200:=by
 obtain ⟨a,b⟩:=Zse h l;have ht:=ZpQ h (h.s (by omega)) l;exact ⟨a,by omega,ZpH (by omega) ho,ht⟩
theorem Zdq (L:List ByteArray) (hL:L.length≤80) (hb: ∀x,x∈L→(bts x).length≤4000000): ∀(k i:Nat) (s:Zh) (out:List UInt8),i≤L.length→L.length-i<k→ZA s→s.reads.length≤i*999→out.length≤i*4398046511201→
  ∃z:Zh,n7_0 r12 r11 r15 k (L,((L.length:Int),())) (s.t,()) (bz out,((i:Int),()))=some (Sum.inl (bz (Wk s ((L.drop i).map bts) out),((L.length:Int),())),(z.t,()))
 |0,_,_,_,_,h,_,_,_=>absurd h (by omega)
 |k+1,i,s,out,hi,hk,hP,hr,ho=>by
  unfold n7_0 w7_0;dsimp only;by_cases h:i<L.length
  ·have hs:ZU s.t:=hP.s (by omega);obtain ⟨a1,a2,a3,a4⟩:=Ze9 (l:=bts L[i]) (by omega) hP hr ho;have ih:=Zdq L hL hb k (i+1) (doM s (bts L[i])).1 (YI out (doM s (bts L[i])).2) (by omega) (by omega) a1 a2 a3;have e1:wI ((i:Int)+1)=((i+1:Nat):Int):=Ql (by omega);rw[Zs,Zl (show (i:Int)< (L.length:Int) by omega),Zp (show (0:Int)≤(i:Int) by omega),Qn .s L i h,e1,ZfM s L[i] (hb _ (List.getElem_mem h)) hs (by omega),J0 h,List.map_cons];simp only[Zb,Zo];rw[show L[i].data.toList=bts L[i]from rfl,Zk3 hP,eqW];show∃z:Zh,(bif !decide ((doM s (bts L[i])).2=[])then _ else _)=some (Sum.inl (bz (Wk (doM s (bts L[i])).1 ((L.drop (i+1)).map bts) (YI out (doM s (bts L[i])).2)),((L.length:Int),())),(z.t,()))
   generalize doM s (bts L[i])=g at ih a3 a4⊢;by_cases e:g.2=[]
   ·have e2:YI out g.2=out:=Ze e;rw[e2]at ih⊢;rw[ZB e,ZM,Zd];exact ih
   ·have e2:YI out g.2=out++(g.2++[10]):=Zc e;rw[e2]at ih a3⊢;rw[List.length_append,List.length_append,List.length_singleton]at a3;have z1:ByteArray.size (bz g.2)+ByteArray.size (bz [10])=g.2.length+1:=rfl;rw[Zw e,QE,Zb];dsimp only;rw[z1,ZI (show g.2.length+1≤4611686018427387904 by omega),Zb,YR];have z2:ByteArray.size (bz out)+ByteArray.size (bz (g.2++[10]))=out.length+(g.2.length+1):=by
     show out.length+(g.2++[10]).length=_;rw[List.length_append,List.length_singleton]
    rw[z2,ZI (show out.length+(g.2.length+1)≤4611686018427387904 by omega),Zb,YR];exact ih
  ·obtain rfl:i=L.length:=by omega
   rw[Zx (by omega),Zd,List.drop_length];exact ⟨s,rfl⟩
theorem ZdR (L:List ByteArray) (hL:L.length≤80) (hb: ∀x,x∈L→(bts x).length≤4000000): ∀(k i:Nat) (s:Zh) (out:List UInt8),i≤L.length→L.length-i<k→ZA s→s.reads.length≤i*999→out.length≤i*4398046511201→
  ∃z:Zh,n5_0 r14 r13 k (L,()) (s.t,()) (bz out,((i:Int),()))=some (Sum.inl (bz (Wk s ((L.drop i).map bts) out),((L.length:Int),())),(z.t,()))
 |0,_,_,_,_,h,_,_,_=>absurd h (by omega)
 |k+1,i,s,out,hi,hk,hP,hr,ho=>by
  unfold n5_0 w5_0;dsimp only;rw[Zs];by_cases h:i<L.length
  ·have hs:ZU s.t:=hP.s (by omega);obtain ⟨a1,a2,a3,a4⟩:=Ze9 (l:=bts L[i]) (by omega) hP hr ho;have ih:=ZdR L hL hb k (i+1) (doM s (bts L[i])).1 (YI out (doM s (bts L[i])).2) (by omega) (by omega) a1 a2 a3;have e1:wI ((i:Int)+1)=((i+1:Nat):Int):=Ql (by omega);rw[Zl (show (i:Int)< (L.length:Int) by omega),Zp (show (0:Int)≤(i:Int) by omega),Qn .s L i h,e1,Zot s L[i] (hb _ (List.getElem_mem h)) hs (by omega),J0 h,List.map_cons];simp only[Zb,Zo];rw[show L[i].data.toList=bts L[i]from rfl,Zk3 hP,eqW];show∃z:Zh,(bif !decide ((doM s (bts L[i])).2=[])then _ else _)=some (Sum.inl (bz (Wk (doM s (bts L[i])).1 ((L.drop (i+1)).map bts) (YI out (doM s (bts L[i])).2)),((L.length:Int),())),(z.t,()))
   generalize doM s (bts L[i])=g at ih a3 a4⊢;by_cases e:g.2=[]
   ·have e2:YI out g.2=out:=Ze e;rw[e2]at ih⊢;rw[ZB e,ZM,Zd];exact ih
   ·have e2:YI out g.2=(out++g.2)++[10]:=(Zc e).trans (List.append_assoc _ _ _).symm;rw[e2]at ih a3⊢;rw[List.length_append,List.length_append,List.length_singleton]at a3;have z1:ByteArray.size (bz out)+ByteArray.size (bz g.2)=out.length+g.2.length:=rfl;rw[Zw e,QE,Zb];dsimp only;rw[z1,ZI (show out.length+g.2.length≤4611686018427387904 by omega),Zb,YR];have z2:ByteArray.size (bz (out++g.2))+ByteArray.size (bz [10])=out.length+g.2.length+1:=by
     show (out++g.2).length+1=_;rw[List.length_append]
    rw[z2,ZI (show out.length+g.2.length+1≤4611686018427387904 by omega),Zb,YR];exact ih
  ·obtain rfl:i=L.length:=by omega
   rw[Zx (by omega),Zd,List.drop_length];exact ⟨s,rfl⟩
def Zrl (s:ByteArray) (k i f:Nat) (rest:List (List UInt8)):Prop:= ∀rows:List ByteArray,rows.length≤i→
 ∃(rows':List ByteArray) (f' i':Int),n5_1 r14 r13 L5_0 k (s,()) () (rows,((f:Int),((i:Int),())))=some (Sum.inl (rows',(f',(i',()))),())∧rows'.map bts=rows.map bts++rest
theorem ZpL (s:ByteArray) (hs:s.data.toList.length≤4000000): ∀(k i f:Nat),f≤i→i≤s.data.toList.length+1→(i=s.data.toList.length+1→s.data.toList.length≤f)→s.data.toList.length+1-i<k→ ¬(10:UInt8)∈(s.data.toList.drop f).take (i-f)→Zrl s k i f (QG (s.data.toList.drop f)):=by
 have hsz:(s.size:Int)=(s.data.toList.length:Int):=by rw[Lib.size_eq]
 have app: ∀(rows:List ByteArray) (x:ByteArray) (rest:List (List UInt8)),(rows++[x]).map bts++rest=rows.map bts++(bts x::rest):=fun rows x rest=>by
  rw[List.map_append,List.append_assoc];rfl
 have most: ∀n:Nat,n≤4000001→n+1≤E.most .s:=fun n h=>by simp only[E.most];omega
 refine Zsy s.data.toList (Zrl s) ?_ ?_ ?_ ?_ ?_
 ·intro k i f rest h hf h10 ih rows hr;unfold n5_1 w5_1;dsimp only;have e1:wI ((i:Int)+1)=((i+1:Nat):Int):=Ql (by omega);rw[hsz];simp only[Zp (show (i:Int)≤(s.data.toList.length:Int) by omega),Zl (show (i:Int)< (s.data.toList.length:Int) by omega),Zp (show (0:Int)≤(i:Int) by omega),Zb,Wy s i h,e1];rw[QS (show¬((s.data.toList[i]).toNat:Int)=10 from fun e=>h10 (UInt8.toNat_inj.1 (by show _=10;omega))),Zb]
  exact ih rows (by omega)
 ·intro k i f rest h hf h10 ih rows hr;unfold n5_1 w5_1;dsimp only;have e1:wI ((i:Int)+1)=((i+1:Nat):Int):=Ql (by omega);have ecur:bts (s.extract (Int.toNat (f:Int)) (Int.toNat (i:Int)))=(s.data.toList.drop f).take (i-f):=by
   show (s.extract (Int.toNat (f:Int)) (Int.toNat (i:Int))).data.toList=_;rw[WF,Int.toNat_natCast,Int.toNat_natCast,List.drop_take]
  rw[hsz];simp only[Zp (show (i:Int)≤(s.data.toList.length:Int) by omega),Zl (show (i:Int)< (s.data.toList.length:Int) by omega),Zi (show¬(i:Int)=(s.data.toList.length:Int) by omega),Zp (show (0:Int)≤(i:Int) by omega),Zp (show (0:Int)≤(f:Int) by omega),Zp (show (f:Int)≤(i:Int) by omega),Zb,Zd,Wy s i h,e1];rw[Ja (show ((s.data.toList[i]).toNat:Int)=10 by rw[h10];rfl),Zd,show rows.length+[s.extract (Int.toNat (f:Int)) (Int.toNat (i:Int))].length=rows.length+1 from rfl,ZI (most rows.length (by omega)),Zb];obtain ⟨r',f',i',e,hm⟩:=ih (rows++[s.extract (Int.toNat (f:Int)) (Int.toNat (i:Int))]) (by rw[List.length_append,List.length_singleton];omega);exact ⟨r',f',i',e,by rw[hm,app,ecur]⟩
 ·intro k f hf ih rows hr;unfold n5_1 w5_1;dsimp only;have e1:wI ((s.data.toList.length:Int)+1)=((s.data.toList.length+1:Nat):Int):=Ql (by omega);have ecur:bts (s.extract (Int.toNat (f:Int)) (Int.toNat (s.data.toList.length:Int)))=(s.data.toList.drop f).take (s.data.toList.length-f):=by
   show (s.extract (Int.toNat (f:Int)) (Int.toNat (s.data.toList.length:Int))).data.toList=_;rw[WF,Int.toNat_natCast,Int.toNat_natCast,List.drop_take]
  rw[hsz];simp only[Zp (show (s.data.toList.length:Int)≤(s.data.toList.length:Int) by omega),Zx (show¬(s.data.toList.length:Int)< (s.data.toList.length:Int) by omega),Zn (show (s.data.toList.length:Int)=(s.data.toList.length:Int)from rfl),Zi (show¬(f:Int)=(s.data.toList.length:Int) by omega),Zp (show (0:Int)≤(s.data.toList.length:Int) by omega),Zp (show (0:Int)≤(f:Int) by omega),Zp (show (f:Int)≤(s.data.toList.length:Int) by omega),Zb,Zd,e1];rw[show rows.length+[s.extract (Int.toNat (f:Int)) (Int.toNat (s.data.toList.length:Int))].length=rows.length+1 from rfl,ZI (most rows.length (by omega)),Zb];obtain ⟨r',f',i',e,hm⟩:=ih (rows++[s.extract (Int.toNat (f:Int)) (Int.toNat (s.data.toList.length:Int))]) (by rw[List.length_append,List.length_singleton];omega);exact ⟨r',f',i',e,by rw[hm,app,ecur]⟩
 ·intro k ih rows hr;unfold n5_1 w5_1;dsimp only;have e1:wI ((s.data.toList.length:Int)+1)=((s.data.toList.length+1:Nat):Int):=Ql (by omega);rw[hsz];simp only[Zp (show (s.data.toList.length:Int)≤(s.data.toList.length:Int) by omega),Zx (show¬(s.data.toList.length:Int)< (s.data.toList.length:Int) by omega),Zn (show (s.data.toList.length:Int)=(s.data.toList.length:Int)from rfl),Zb,Zd,e1];exact ih rows (by omega)
 ·intro k f rows hr;unfold n5_1 w5_1;dsimp only;rw[hsz,JG (show¬((s.data.toList.length+1:Nat):Int)≤(s.data.toList.length:Int) by omega),Zd];exact ⟨rows,_,_,rfl,by rw[List.append_nil]⟩
theorem ZgY (t:ByteArray) (p:List Int) (cap:Int) (lines:ByteArray) (hp:p.length≤2000000) (hl:lines.data.toList.length≤4000000):
  r7 (t,(p,(cap,(lines,()))))=some ((bz (UU t.data.toList p cap lines.data.toList).1,((UU t.data.toList p cap lines.data.toList).2,())),()):=by
 unfold r7 m7 UU;refine Za (ZeL t p cap hp) ?_;obtain ⟨L,eL,hL⟩:=ZhA lines (by rw[Lib.size_eq];omega);refine Za eL ?_;dsimp only;rw[Zs];have hL:L.map bts=QG lines.data.toList:=hL;have hlen:(QG lines.data.toList).length=L.length:=by rw[←hL,List.length_map]
 obtain ⟨_,c2⟩:=Zek _ lines.data.toList (Nat.le_refl _);rw[hlen];by_cases h:(XK t.data.toList p cap).2=0
 ·obtain ⟨e1,hP⟩:=Zc3 h;rw[Ja h,Zd,Ze h];by_cases h80:80<L.length
  ·rw[Zl (show (80:Int)< (L.length:Int) by omega),Zb,Ze h80]
  ·rw[Zx (show¬(80:Int)< (L.length:Int) by omega),Zd,Zc h80,e1];obtain ⟨z,ez⟩:=Zdq L (by omega) (fun x hx=>Nat.le_trans (c2 (bts x) (by rw[←hL];exact List.mem_map_of_mem hx)) hl) fuel 0 (Vy [(QH t.data.toList).1] p cap) [] (Nat.zero_le _) (by have:=ZZ;omega) hP (Nat.zero_le _) (Nat.zero_le _);rw[List.drop_zero,hL]at ez;exact Za ez rfl
 ·rw[QS h,Zb,Zc h]
theorem Zg8 (t:ByteArray) (p:List Int) (cap:Int) (lines:ByteArray) (hp:p.length≤2000000) (hl:lines.data.toList.length≤4000000):
  r5 (t,(p,(cap,(lines,()))))=some ((bz (UU t.data.toList p cap lines.data.toList).1,((UU t.data.toList p cap lines.data.toList).2,())),()):=by
 unfold r5 m5 UU;refine Za (ZjS t p cap hp) ?_;obtain ⟨L,f',i',eL,hL⟩:=ZpL lines hl fuel 0 0 (Nat.le_refl _) (Nat.zero_le _) (fun e=>by omega) (by have:=ZZ;omega) (by simp) [] (Nat.le_refl _);rw[List.drop_zero,List.map_nil,List.nil_append]at hL;have hlen:(QG lines.data.toList).length=L.length:=by rw[←hL,List.length_map]
 obtain ⟨_,c2⟩:=Zek _ lines.data.toList (Nat.le_refl _);rw[hlen];show (bif neI (XK t.data.toList p cap).2 0 then _ else _)=_
 by_cases h:(XK t.data.toList p cap).2=0
 ·obtain ⟨e1,hP⟩:=Zc3 h;rw[Ja h,Zd,Ze h];refine Za eL ?_;show (bif ltI 80 (Zf L)then _ else _)=_
  rw[Zs];by_cases h80:80<L.length
  ·rw[Zl (show (80:Int)< (L.length:Int) by omega),Zb,Ze h80]
  ·rw[Zx (show¬(80:Int)< (L.length:Int) by omega),Zd,Zc h80,e1];obtain ⟨z,ez⟩:=ZdR L (by omega) (fun x hx=>Nat.le_trans (c2 (bts x) (by rw[←hL];exact List.mem_map_of_mem hx)) hl) fuel 0 (Vy [(QH t.data.toList).1] p cap) [] (Nat.zero_le _) (by have:=ZZ;omega) hP (Nat.zero_le _) (Nat.zero_le _);rw[List.drop_zero,hL]at ez;exact Za ez rfl
 ·rw[QS h,Zb,Zc h]

end Go.Proofs.YtcbdldlphpjmbaaGreatDoor.Plain
