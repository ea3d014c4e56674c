/- Plain laws of the printed functions: Asm, Asm2, Rd, Asm3. No condition beyond those that each lemma states. -/
import Derived.Test.YtcbdldlphpjmbaaGreatDoorPK
set_option linter.unusedVariables false
set_option linter.unusedSimpArgs false
namespace Go.Proofs.YtcbdldlphpjmbaaGreatDoor.Plain
open Go Go.Tev
def QI:List (List UInt8):=[[110,111,112],[108,100,105],[108,100,97],[115,116,97],[97,100,105],[115,98,105],[97,110,105],[111,114,105],[120,114,105],[99,112,105],[116,97,120],[116,120,97],[105,110,120],[100,101,120],[108,97,120],[115,97,120],[98,110,101],[98,101,113],[98,99,115],[106,109,112],[106,115,114],[114,116,115],[112,104,97],[112,108,97],[114,116,105],[115,101,105],[99,108,105],[115,101,99],[99,108,99],[97,100,97]]
def K6 (s:List UInt8):List (List UInt8)→Nat→Option Nat
 | [],_=>none
 |x::r,i=>if x=s then some i else K6 s r (i+1)
def opA (s:List UInt8):Int:=match K6 s QI 0 with|none=> -1|some i=>i
theorem ZnB (s:List UInt8): ∀(l:List (List UInt8)) (i j:Nat),K6 s l i=some j→i≤j∧j<i+l.length
 | [],_,_,h=>by cases h
 |x::r,i,j,h=>by
  unfold K6 at h;split at h
  ·injection h with h;simp;omega
  ·have:=ZnB s r (i+1) j h;simp;omega
theorem Zsp (s:List UInt8):opA s= -1∨0≤opA s∧opA s≤29:=by
 unfold opA;cases h:K6 s QI 0 with
 |none=>exact .inl rfl
 |some j=>
  obtain ⟨_,b⟩:=ZnB s QI 0 j h;have:QI.length=30:=rfl;right;dsimp only;omega
def atW:List UInt8:=[97,116]
def XA:List UInt8:=[98,121,116,101]
def QR (l:List UInt8):Option (List Int×Int):=match Jl l with
 |none=>if l=atW∨l=XA∨opA l<0 then none else if Qh (opA l)=1 then some ([opA l],-1)else none
 |some p=>if Zu p.2<0 then none
  else if p.1=atW then (if Zu p.2≤255 then some ([],Zu p.2)else none)
  else if p.1=XA then (if Zu p.2≤255 then some ([Zu p.2],-1)else none)
  else if opA p.1<0 then none
  else if Qh (opA p.1)=1 then none
  else if Qh (opA p.1)=2 then (if Zu p.2≤255 then some ([opA p.1,Zu p.2],-1)else none)
  else if Zu p.2≤65535 then some ([opA p.1,Zu p.2%256,Zu p.2/256],-1)else none
def Ye:List Int→Int→List Int→List Int×Int
 | [],a,out=>(out,a)
 |v::r,a,out=>Ye r ((a+1)%256) (out.set a.toNat v)
def Y3:List (List UInt8)→Int→Int→List Int→List Int×Int
 | [],_,_,out=>(out,0)
 |l::r,m,a,out=>if l=[]then Y3 r (m+1) a out else match QR l with
  |none=>([],m+1)
  |some p=>Y3 r (m+1) (Ye p.1 (if 0≤p.2 then p.2 else a) out).2 (Ye p.1 (if 0≤p.2 then p.2 else a) out).1
def QH (l:List UInt8):List Int×Int:=if 3000<l.length then ([],-1)else Y3 (QG l) 0 0 (List.replicate 256 0)
theorem Zkq {l:List UInt8} {x:List Int} {t:Int} (h:QR l=some (x,t)):J7 x∧x.length≤3∧t≤255:=by
 have one: ∀w:List UInt8,¬opA w<0→0≤opA w∧opA w≤255:=fun w hw=>by rcases Zsp w with e|e<;>omega
 unfold QR at h;split at h
 ·split at h
  ·cases h
  ·rename_i hn;split at h
   ·injection h with h;injection h with h1 h2;subst h1 h2
    exact ⟨Un (one _ fun e=>hn (.inr (.inr e))) Uo,by simp,by omega⟩
   ·cases h
 ·rename_i p _;split at h
  ·cases h
  ·rename_i h0;split at h
   ·split at h
    ·injection h with h;injection h with h1 h2;subst h1 h2
     exact ⟨Uo,by simp,by assumption⟩
    ·cases h
   ·split at h
    ·split at h
     ·injection h with h;injection h with h1 h2;subst h1 h2
      exact ⟨Un ⟨by omega,by omega⟩ Uo,by simp,by omega⟩
     ·cases h
    ·split at h
     ·cases h
     ·rename_i ho;have ho:=one _ ho;split at h
      ·cases h
      ·split at h
       ·split at h
        ·injection h with h;injection h with h1 h2;subst h1 h2
         exact ⟨Un ho (Un ⟨by omega,by omega⟩ Uo),by simp,by omega⟩
        ·cases h
       ·split at h
        ·injection h with h;injection h with h1 h2;subst h1 h2
         exact ⟨Un ho (Un (mod256 _) (Un ⟨by omega,by omega⟩ Uo)),by simp,by omega⟩
        ·cases h
theorem ZlE: ∀(l:List Int) (a:Int) (out:List Int),J7 l→J7 out→0≤a→a≤255→J7 (Ye l a out).1∧(Ye l a out).1.length=out.length∧0≤(Ye l a out).2∧(Ye l a out).2≤255
 | [],a,out,_,h,h0,h1=>⟨h,rfl,h0,h1⟩
 |v::r,a,out,hl,h,h0,h1=>by
  obtain ⟨a1,a2,a3,a4⟩:=ZlE r ((a+1)%256) (out.set a.toNat v) (fun x hx=>hl x (List.mem_cons_of_mem _ hx)) (Znd h _ (hl v List.mem_cons_self)) (by omega) (by omega);exact ⟨a1,by rw[Ye,a2,List.length_set],a3,a4⟩
theorem Zm1: ∀(ls:List (List UInt8)) (m a:Int) (out:List Int),J7 out→out.length=256→0≤a→a≤255→J7 (Y3 ls m a out).1∧((Y3 ls m a out).2=0→(Y3 ls m a out).1.length=256∨m<0)
 | [],m,a,out,h,hl,_,_=>⟨h,fun _=> .inl hl⟩
 |l::r,m,a,out,h,hl,h0,h1=>by
  unfold Y3;split
  ·obtain ⟨a1,a2⟩:=Zm1 r (m+1) a out h hl h0 h1;exact ⟨a1,fun e=>by rcases a2 e with e|e;exact .inl e;right;omega⟩
  ·split
   ·exact ⟨Uo,fun e=> .inr (by dsimp only at e;omega)⟩
   ·rename_i p hp;obtain ⟨b1,b2,b3⟩:=Zkq (x:=p.1) (t:=p.2) hp;obtain ⟨c1,c2,c3,c4⟩:=ZlE p.1 (if 0≤p.2 then p.2 else a) out b1 h (by split<;>omega) (by split<;>omega)
    obtain ⟨a1,a2⟩:=Zm1 r (m+1) _ _ c1 (by rw[c2];exact hl) c3 c4;exact ⟨a1,fun e=>by rcases a2 e with e|e;exact .inl e;right;omega⟩
theorem Zkb (l:List UInt8):J7 (QH l).1∧((QH l).2=0→(QH l).1.length=256):=by
 unfold QH;split
 ·exact ⟨Uo,fun e=>by cases e⟩
 ·obtain ⟨a,b⟩:=Zm1 (QG l) 0 0 (List.replicate 256 0) (Zfm _) (List.length_replicate ..) (by omega) (by omega);exact ⟨a,fun e=>by rcases b e with e|e;exact e;omega⟩
theorem Zmr:r216 ()=some ((QI.map fun l=>(⟨⟨l⟩⟩:ByteArray),()),()):=rfl
theorem Zlz (i:Nat) (h:i<QI.length):(rdE .s (QI.map fun l=>(⟨⟨l⟩⟩:ByteArray)) (i:Int))=(⟨⟨QI[i]⟩⟩:ByteArray):=by
 rw[Qn .s _ i (by rw[List.length_map];exact h),List.getElem_map]
theorem ZhF (s:ByteArray): ∀(k i:Nat),i≤QI.length→QI.length-i<k→
  n141_0 r216 k (s,(QI.map fun l=>(⟨⟨l⟩⟩:ByteArray),())) () ((i:Int),())=
   some ((match K6 s.data.toList (QI.drop i) i with|none=>Sum.inl (((30:Nat):Int),())|some j=>Sum.inr ((j:Int),())),())
 |0,_,_,h=>absurd h (by omega)
 |k+1,i,hi,hk=>by
  have h30:QI.length=30:=rfl;show (bif ltI (i:Int) (Zf (QI.map fun l=>(⟨⟨l⟩⟩:ByteArray)))then (bif leI 0 (i:Int)then (bif ltI (i:Int) (Zf (QI.map fun l=>(⟨⟨l⟩⟩:ByteArray)))then (bif ((rdE .s (QI.map fun l=>(⟨⟨l⟩⟩:ByteArray)) (i:Int)).toList==s.toList)then some (Sum.inr ((i:Int),()),())
   else n141_0 r216 k (s,(QI.map fun l=>(⟨⟨l⟩⟩:ByteArray),())) () (wI ((i:Int)+1),()))else none)else none)else some (Sum.inl ((i:Int),()),()))=_
  rw[Zs,List.length_map];by_cases h:i<QI.length
  ·rw[Zl (by omega),Zp (by omega),Zlz i h,Zoz _ s.data.toList s rfl,Ql (by omega),J0 h];simp only[Zb];show (bif decide (QI[i]=s.data.toList)then _ else _)=_
   unfold K6;by_cases e:QI[i]=s.data.toList
   ·rw[ZB e,Zb,Ze e]
   ·rw[Zw e,Zd,Zc e,ZhF s k (i+1) (by omega) (by omega)]
  ·obtain rfl:i=QI.length:=by omega
   rw[Zx (by omega),Zd,List.drop_length];rfl
theorem ZgD (s:ByteArray):r141 (s,())=some ((opA s.data.toList,()),()):=by
 unfold r141 m141 opA;refine Za Zmr ?_;have h:=ZhF s fuel 0 (Nat.zero_le _) (by have:=ZZ;have:QI.length=30:=rfl;omega);rw[List.drop_zero]at h;refine Za h ?_;cases K6 s.data.toList QI 0 with
 |none=>rfl
 |some j=>rfl
theorem eqW (w:ByteArray) (l:List UInt8):(w.toList==(⟨⟨l⟩⟩:ByteArray).toList)=decide (w.data.toList=l):=Zoz w l _ rfl
theorem Zms (s:ByteArray) (hs:s.data.toList.length≤4000000): ∃x:List Int×Int,r79 (s,())=some ((x.1,(x.2,((QR s.data.toList).isSome,()))),())∧ ∀y,QR s.data.toList=some y→x=y:=by
 unfold r79 m79;rw[Zji s hs];generalize hL:s.data.toList=l at*;have none': ∀(x:List Int) (t:Int),QR l=none→ ∃z:List Int×Int,some (((x,(t,(false,()))),()):PTup o79×BTup i79)=some ((z.1,(z.2,((QR l).isSome,()))),())∧ ∀y,QR l=some y→z=y:=fun x t h=>⟨(x,t),by rw[h];rfl,fun y hy=>by rw[h]at hy;cases hy⟩;have some': ∀(x:List Int) (t:Int),QR l=some (x,t)→ ∃z:List Int×Int,some (((x,(t,(true,()))),()):PTup o79×BTup i79)=some ((z.1,(z.2,((QR l).isSome,()))),())∧ ∀y,QR l=some y→z=y:=fun x t h=>⟨(x,t),by rw[h];rfl,fun y hy=>by rw[h]at hy;exact Option.some.inj hy⟩;have len1:eqI 1 1=true:=rfl;have len12:eqI 1 2=false:=rfl;unfold Zps;rw[hL];cases hc:Jl l with
 |none=>
  have hM:QR l=if l=atW∨l=XA∨opA l<0 then none else if Qh (opA l)=1 then some ([opA l],-1)else none:=by unfold QR;rw[hc]
  dsimp only;rw[Zo];dsimp only;rw[ZM,Zd,eqW,eqW,hL,JV];have i1: ∀hi:Int,inR 0 hi (-1)=false:=fun hi=>rfl;simp only[i1,Zo,QE,Zb];by_cases ha:l=[97,116]
  ·rw[ZB ha,Zb];exact none' _ _ (by rw[hM,Ze (.inl ha)])
  rw[Zw ha,Zd];by_cases hb:l=[98,121,116,101]
  ·rw[ZB hb,Zb];exact none' _ _ (by rw[hM,Ze (.inr (.inl hb))])
  rw[Zw hb,Zd,ZgD,hL];simp only[Zo];by_cases ho:opA l<0
  ·rw[Zl ho,Zb];exact none' _ _ (by rw[hM,Ze (.inr (.inr ho))])
  rw[Zx ho,Zd,Za7];simp only[Zo];have hn: ¬(l=atW∨l=XA∨opA l<0):=by rintro (h|h|h);exact ha h;exact hb h;exact ho h
  rw[Zc hn]at hM;by_cases h1:Qh (opA l)=1
  ·rw[Zn h1,Zb];exact some' _ _ (by rw[hM,Ze h1])
  rw[Zc h1]at hM;rw[Zi h1,Zd];by_cases h2:Qh (opA l)=2
  ·rw[Zn h2,Zb,QY];exact none' _ _ hM
  ·rw[Zi h2,Zd,QY];simp only[Zo];rw[QY];exact none' _ _ hM
 |some p=>
  obtain ⟨w,b⟩:=p;have hM:QR l=if Zu b<0 then none
   else if w=atW then (if Zu b≤255 then some ([],Zu b)else none)
   else if w=XA then (if Zu b≤255 then some ([Zu b],-1)else none)
   else if opA w<0 then none
   else if Qh (opA w)=1 then none
   else if Qh (opA w)=2 then (if Zu b≤255 then some ([opA w,Zu b],-1)else none)
   else if Zu b≤65535 then some ([opA w,Zu b%256,Zu b/256],-1)else none:=by unfold QR;rw[hc]
  dsimp only;rw[Zo];dsimp only;by_cases h0:Zu b<0
  ·rw[JG (by omega),QE,Zb];exact none' _ _ (by rw[hM,Ze h0])
  rw[Zc h0]at hM;have hB:Zu b<100000:=by
   rcases Decidable.em (Zu b= -1)with e|e
   ·omega
   ·obtain ⟨n,h1,_,h3⟩:=ZdA e;omega
  rw[Zp (by omega),ZM,Zd,eqW,eqW,JV];simp only[Zo];have hin: ∀hi:Int,inR 0 hi (Zu b)=leI (Zu b) hi:=fun hi=>by unfold inR;rw[Zp (by omega),Bool.true_and]
  rw[hin];by_cases ha:w=[97,116]
  ·rw[Ze (show w=atW from ha)]at hM;rw[ZB ha,Zb,Zb];by_cases h255:Zu b≤255
   ·rw[Zp h255,ZM,Zd];exact some' _ _ (by rw[hM,Ze h255])
   ·rw[JG h255,QE,Zb];exact none' _ _ (by rw[hM,Zc h255])
  rw[Zc (show¬w=atW from ha)]at hM;rw[Zw ha,Zd];by_cases hb:w=[98,121,116,101]
  ·rw[Ze (show w=XA from hb)]at hM;rw[ZB hb,Zb];by_cases h255:Zu b≤255
   ·rw[Zp h255,ZM,Zd,Zd];exact some' _ _ (by rw[hM,Ze h255])
   ·rw[JG h255,QE,Zb];exact none' _ _ (by rw[hM,Zc h255])
  rw[Zc (show¬w=XA from hb)]at hM;rw[Zw hb,Zd,ZgD];simp only[Zo];show∃x:List Int×Int,(bif ltI (opA w) 0 then _ else _)=_∧_
  by_cases ho:opA w<0
  ·rw[Zl ho,Zb];exact none' _ _ (by rw[hM,Ze ho])
  rw[Zc ho]at hM;rw[Zx ho,Zd,Za7];simp only[Zo];show∃x:List Int×Int,(bif eqI (Qh (opA w)) 1 then _ else _)=_∧_
  by_cases h1:Qh (opA w)=1
  ·rw[Ze h1]at hM;rw[Zn h1,Zb,Zx h0];exact none' _ _ hM
  rw[Zc h1]at hM;rw[Zi h1,Zd];by_cases h2:Qh (opA w)=2
  ·rw[Ze h2]at hM;rw[Zn h2,Zb,QY];simp only[Zo];show∃x:List Int×Int,some (((opA w::(Zu b%256::[]),(-(1:Int),(leI (Zu b) 255,()))),()):PTup o79×BTup i79)=_∧_;by_cases h255:Zu b≤255
   ·rw[Zp h255,show Zu b%256=Zu b by omega];exact some' _ _ (hM.trans (Ze h255))
   ·rw[JG h255];exact none' _ _ (by rw[hM,Zc h255])
  ·rw[Zc h2]at hM;rw[Zi h2,Zd,QY,QY,JV];simp only[Zo];show∃x:List Int×Int,some (((opA w::(Zu b%256::(Int.fdiv (Zu b) 256%256::[])),(-(1:Int),(inR 0 65535 (Zu b),()))),()):PTup o79×BTup i79)=_∧_;rw[hin];by_cases h255:Zu b≤65535
   ·rw[Zp h255,Int.fdiv_eq_ediv_of_nonneg _ (by decide),show Zu b/256%256=Zu b/256 by omega];exact some' _ _ (hM.trans (Ze h255))
   ·rw[JG h255];exact none' _ _ (by rw[hM,Zc h255])
theorem ZeE (l:List Int) (hl3:l.length≤3): ∀(k i:Nat) (a:Int) (out:List Int),i≤l.length→l.length-i<k→out.length=256→0≤a→a+((l.length-i:Nat):Int)≤100000→
  ∃a':Int,n33_0 r80 r79 k (l,()) () (a,((i:Int),(out,())))=some (Sum.inl (a',(((l.length:Nat):Int),((Ye (l.drop i) (a%256) out).1,()))),())∧a'%256=(Ye (l.drop i) (a%256) out).2∧a≤a'∧a'≤a+((l.length-i:Nat):Int)
 |0,_,_,_,_,h,_,_,_=>absurd h (by omega)
 |k+1,i,a,out,hi,hk,ho,h0,h1=>by
  unfold n33_0 w33_0;dsimp only;rw[Zs];by_cases h:i<l.length
  ·have hm:=mod256 a;have e1:wI ((i:Int)+1)=((i+1:Nat):Int):=Ql (by omega);have e2:wI (a+1)=a+1:=Zr (by omega) (by omega);have e3:a%256< ((256:Nat):Int):=by omega
   rw[Zl (show (i:Int)< (l.length:Int) by omega),Zb,QY];simp only[Zo];rw[Zs,ho,Zp (show (0:Int)≤(i:Int) by omega),Zp hm.1,Zl e3,Qn .i l i h,e1,e2];simp only[Zb];obtain ⟨a',e1,e2,e3,e4⟩:=ZeE l hl3 k (i+1) (a+1) (out.set (a%256).toNat l[i]) (by omega) (by omega) (by rw[List.length_set];exact ho) (by omega) (by omega);refine ⟨a',?_,?_,by omega,by omega⟩
   ·rw[e1,J0 h,Ye,show (a+1)%256=(a%256+1)%256 by omega]
   ·rw[e2,J0 h,Ye,show (a+1)%256=(a%256+1)%256 by omega]
  ·obtain rfl:i=l.length:=by omega
   rw[Zx (by omega),Zd,List.drop_length];exact ⟨a,rfl,rfl,by omega,by omega⟩
def ZkZ (R:List Int×Int) (r:Sum (PTup lv33_1) (PTup lr33_1)×BTup lb33_1):Prop:=(∃a' f' m' i':Int,r=(Sum.inl (a',(f',(m',(i',(R.1,()))))),())∧R.2=0)∨r=(Sum.inr (R.1,(R.2,())),())
theorem Zj1 {l:List UInt8} {f i:Nat} (hf:f≤i) (h:i<l.length):(l.drop f).take (i+1-f)=(l.drop f).take (i-f)++[l[i]]:=by
 rw[show i+1-f=(i-f)+1 by omega,List.take_succ_eq_append_getElem (by rw[List.length_drop];omega),List.getElem_drop];simp only[show f+(i-f)=i by omega]
theorem Zb0 (s:ByteArray) (hs:s.data.toList.length≤3000): ∀(k i f:Nat) (m a:Int) (out:List Int),f≤i→i≤s.data.toList.length+1→(i=s.data.toList.length+1→s.data.toList.length≤f)→s.data.toList.length+1-i<k→
  ¬(10:UInt8)∈(s.data.toList.drop f).take (i-f)→out.length=256→J7 out→0≤a→a≤255+3*(f:Int)→0≤m→m≤(f:Int)→
  Ans (n33_1 r80 r79 L33_0 k (s,()) () (a,((f:Int),(m,((i:Int),(out,())))))) (ZkZ (Y3 (QG (s.data.toList.drop f)) m (a%256) out))
 |0,_,_,_,_,_,_,_,_,h,_,_,_,_,_,_,_=>absurd h (by omega)
 |k+1,i,f,m,a,out,hf,hi,hlast,hk,hno,ho,hb,a0,a1,m0,m1=>by
  have hsz:(s.size:Int)=(s.data.toList.length:Int):=by rw[Lib.size_eq]
  unfold n33_1 w33_1;dsimp only;rw[hsz];by_cases hc:i≤s.data.toList.length
  ·have e1:wI ((i:Int)+1)=((i+1:Nat):Int):=Ql (by omega);have e2:wI (m+1)=m+1:=Zr (by omega) (by omega);simp only[Zp (show (i:Int)≤(s.data.toList.length:Int) by omega),Zp (show (0:Int)≤(i:Int) by omega),Zp (show (0:Int)≤(f:Int) by omega),Zp (show (f:Int)≤(i:Int) by omega),Zb,e1,e2];have line: ∀cur:List UInt8,(s.extract (Int.toNat (f:Int)) (Int.toNat (i:Int))).data.toList=cur→QG (s.data.toList.drop f)=cur::QG (s.data.toList.drop (i+1))→
     Ans (bif ((s.extract (Int.toNat (f:Int)) (Int.toNat (i:Int))).toList==(bz []).toList)then n33_1 r80 r79 L33_0 k (s,()) () (a,(((i+1:Nat):Int),(m+1,(((i+1:Nat):Int),(out,())))))
      else (r79 (s.extract (Int.toNat (f:Int)) (Int.toNat (i:Int)),())).bind fun r0=>bif !r0.1.2.2.1 then some (Sum.inr ([],(m+1,())),())
       else bif leI 0 r0.1.2.1 then (L33_0 (r0.1.1,()) () (r0.1.2.1,((0:Int),(out,())))).bind fun r1=>ZE r1.1 (fun r2=>n33_1 r80 r79 L33_0 k (s,()) () (r2.1,(((i+1:Nat):Int),(m+1,(((i+1:Nat):Int),r2.2.2))))) fun r2=>none
       else (L33_0 (r0.1.1,()) () (a,((0:Int),(out,())))).bind fun r1=>ZE r1.1 (fun r2=>n33_1 r80 r79 L33_0 k (s,()) () (r2.1,(((i+1:Nat):Int),(m+1,(((i+1:Nat):Int),r2.2.2))))) fun r2=>none) (ZkZ (Y3 (QG (s.data.toList.drop f)) m (a%256) out)):=fun cur hcur hl=>by
    have hcl:cur.length≤3000:=by rw[←hcur,WF,List.length_drop,List.length_take];omega
    rw[hl,eqW,hcur];unfold Y3;by_cases h0:cur=[]
    ·rw[ZB h0,Zb,Ze h0];exact Zb0 s hs k (i+1) (i+1) (m+1) a out (Nat.le_refl _) (by omega) (fun _=>by omega) (by omega) (by simp) ho hb a0 (by omega) (by omega) (by omega)
    rw[Zw h0,Zd,Zc h0];obtain ⟨x,ex,hx⟩:=Zms (s.extract (Int.toNat (f:Int)) (Int.toNat (i:Int))) (by rw[hcur];omega);rw[hcur]at ex hx;refine (Ans.of ex).bind ?_;rintro _ rfl;dsimp only;cases hM:QR cur with
    |none=>
     rw[Option.isSome_none,QE,Zb];exact .ret (.inr rfl)
    |some p=>
     obtain rfl:=hx p hM;rw[Option.isSome_some,ZM,Zd];obtain ⟨b1,b2,b3⟩:=Zkq (x:=x.1) (t:=x.2) hM;have go: ∀a2:Int,0≤a2→a2≤255+3*(f:Int)→Ans ((L33_0 (x.1,()) () (a2,((0:Int),(out,())))).bind fun r1=>ZE r1.1 (fun r2=>n33_1 r80 r79 L33_0 k (s,()) () (r2.1,(((i+1:Nat):Int),(m+1,(((i+1:Nat):Int),r2.2.2))))) fun r2=>none)
       (ZkZ (Y3 (QG (s.data.toList.drop (i+1))) (m+1) (Ye x.1 (a2%256) out).2 (Ye x.1 (a2%256) out).1)):=fun a2 h1 h2=>by
      obtain ⟨a',p1,p2,p3,p4⟩:=ZeE x.1 b2 fuel 0 a2 out (Nat.zero_le _) (by have:=ZZ;omega) ho h1 (by omega);rw[List.drop_zero]at p1 p2;obtain ⟨q1,q2,_,_⟩:=ZlE x.1 (a2%256) out b1 hb (mod256 _).1 (mod256 _).2;refine (Ans.of p1).bind ?_;rintro _ rfl;rw[←p2];exact Zb0 s hs k (i+1) (i+1) (m+1) a' _ (Nat.le_refl _) (by omega) (fun _=>by omega) (by omega) (by simp) (by rw[q2];exact ho) q1 (by omega) (by omega) (by omega) (by omega)
     show Ans _ (ZkZ (Y3 (QG (s.data.toList.drop (i+1))) (m+1) (Ye x.1 (if 0≤x.2 then x.2 else a%256) out).2 (Ye x.1 (if 0≤x.2 then x.2 else a%256) out).1))
     by_cases ht:0≤x.2
     ·rw[Zp ht,Zb,Ze ht];have:=go x.2 ht (by omega);rw[show x.2%256=x.2 by omega]at this;exact this
     ·rw[JG ht,Zd,Zc ht];exact go a a0 a1
   have ecur:(s.extract (Int.toNat (f:Int)) (Int.toNat (i:Int))).data.toList=(s.data.toList.drop f).take (i-f):=by
    rw[WF,Int.toNat_natCast,Int.toNat_natCast,List.drop_take]
   by_cases hlt:i<s.data.toList.length
   ·simp only[Zl (show (i:Int)< (s.data.toList.length:Int) by omega),Zi (show¬(i:Int)=(s.data.toList.length:Int) by omega),Zb,Zd,Wy s i hlt];by_cases h10:s.data.toList[i]=10
    ·rw[Ja (show ((s.data.toList[i]).toNat:Int)=10 by rw[h10];rfl),Zd];refine line _ ecur ?_;have e3:s.data.toList.drop f=(s.data.toList.drop f).take (i-f)++10::s.data.toList.drop (i+1):=by
      have e4:(s.data.toList.drop f).drop (i-f)=10::s.data.toList.drop (i+1):=by
       rw[List.drop_drop,show f+(i-f)=i by omega,J0 hlt,h10]
      rw[←e4,List.take_append_drop]
     conv=>lhs;rw[e3]
     exact Zej _ hno
    ·rw[QS (show¬((s.data.toList[i]).toNat:Int)=10 from fun e=>h10 (UInt8.toNat_inj.1 (by show _=10;omega))),Zb]
     exact Zb0 s hs k (i+1) f m a out (by omega) (by omega) (fun e=>by omega) (by omega) (by
      rw[Zj1 hf hlt];intro e;rcases List.mem_append.1 e with e|e
      ·exact hno e
      ·exact h10 (List.mem_singleton.1 e).symm) ho hb a0 a1 m0 m1
   ·obtain rfl:i=s.data.toList.length:=by omega
    simp only[Zx (show¬(s.data.toList.length:Int)< (s.data.toList.length:Int) by omega),Zn rfl,Zb,Zd];have etake:(s.data.toList.drop f).take (s.data.toList.length-f)=s.data.toList.drop f:=List.take_of_length_le (by rw[List.length_drop];omega);by_cases hfe:f=s.data.toList.length
    ·rw[Zn (show (f:Int)=(s.data.toList.length:Int) by omega),Zb];exact Zb0 s hs k (s.data.toList.length+1) f m a out (by omega) (by omega) (fun _=>by omega) (by omega) (by rw[hfe,List.drop_length];simp) ho hb a0 a1 m0 m1
    ·rw[Zi (show¬(f:Int)=(s.data.toList.length:Int) by omega),Zd];refine line _ ecur ?_;rw[etake]at hno⊢;rw[Zc1 hno,Zc (fun e=>by have:=congrArg List.length e;rw[List.length_drop,List.length_nil]at this;omega),List.drop_of_length_le (show s.data.toList.length≤s.data.toList.length+1 by omega)];rfl
  ·obtain rfl:i=s.data.toList.length+1:=by omega
   rw[JG (by omega),Zd,List.drop_of_length_le (hlast rfl)];exact .ret (.inl ⟨a,(f:Int),m,((s.data.toList.length+1:Nat):Int),rfl,rfl⟩)
theorem Zgw (s:ByteArray):r33 (s,())=some (((QH s.data.toList).1,((QH s.data.toList).2,())),()):=by
 have fin:Ans (r33 (s,())) fun r=>r=(((QH s.data.toList).1,((QH s.data.toList).2,())),()):=by
  unfold r33 m33 QH;dsimp only;have hsz:(s.size:Int)=(s.data.toList.length:Int):=by rw[Lib.size_eq]
  rw[hsz];by_cases h:3000<s.data.toList.length
  ·rw[Zl (by omega),Zb,Ze h];exact .ret rfl
  ·rw[Zx (by omega),Zd,Zc h];refine (Zb0 s (by omega) fuel 0 0 0 0 (List.replicate 256 0) (Nat.le_refl _) (by omega) (fun e=>by omega) (by have:=ZZ;omega) (by simp) (List.length_replicate ..) (Zfm _) (by omega) (by omega) (by omega) (by omega)).bind ?_;rintro _ (⟨a,f,m,i,rfl,h0⟩|rfl)
   ·refine .ret ?_;rw[List.drop_zero]at h0⊢;have h0:(Y3 (QG s.data.toList) 0 0 (List.replicate 256 0)).2=0:=h0;rw[h0];rfl
   ·exact .ret rfl
 obtain ⟨r,e,rfl⟩:=fin;exact e
theorem ZnQ (l:List UInt8) (most:Int) (hm:most<100000):J2 l most=if 0≤Zu l∧Zu l≤most then (Zu l,true)else (0,false):=by
 unfold J2;by_cases h:Zu l= -1
 ·rw[h,Zc (by omega)];rw[ZnP]at h;cases e:Lib.atoiAll l with
  |ok v=>
   dsimp only;rw[Zc];rintro ⟨h0,h1,h2⟩;obtain ⟨n,rfl⟩:=Int.eq_ofNat_of_zero_le h0;rw[Zin]at h2;exact h n (by omega) h2.symm
  |range=>rfl
  |_=>rfl
 ·obtain ⟨n,h1,h2,h3⟩:=ZdA h;rw[h3,h2,ZoZ h1];dsimp only;rw[Zin];by_cases hn:(n:Int)≤most
  ·rw[Ze ⟨by omega,hn,rfl⟩,Ze ⟨by omega,hn⟩]
  ·rw[Zc (by rintro ⟨_,a,_⟩;exact hn a),Zc (by rintro ⟨_,a⟩;exact hn a)]
abbrev bts (b:ByteArray):List UInt8:=b.data.toList
theorem ZhA (text:ByteArray) (h:text.size<4294967281): ∃L:List ByteArray,r15 (text,())=some ((L,()),())∧L.map bts=QG (bts text):=by
 unfold r15 m15;have hsp:r44 (text,(bz [10],()))=some ((Lib.splitB (bz [10]) 0 (Lib.countB text (bz [10])) text,()),()):=by
  show (bif Nat.blt (ByteArray.size text) 4294967281&&Nat.ble 1 (ByteArray.size (bz [10]))then some ((Lib.splitB (bz [10]) 0 (Lib.countB text (bz [10])) text,()),())else none)=_
  rw[show Nat.blt (ByteArray.size text) 4294967281=true by rw[Nat.blt_eq];exact h];rfl
 have hm:(Lib.splitB (bz [10]) 0 (Lib.countB text (bz [10])) text).map bts=J4 (bts text):=ZpM text (bz [10]) rfl;have hlen:=Lib.splitB_length_le (bz [10]) 0 (Lib.countB text (bz [10])) text;have hc:Lib.countB text (bz [10])≤4294967282:=by
  have:=Lib.count_le text.data.toList (bz [10]).data.toList;rw[←Lib.size_eq]at this;show Lib.count _ _≤_;omega
 generalize Lib.splitB (bz [10]) 0 (Lib.countB text (bz [10])) text=L at hsp hm hlen;have hne:=ZhQ (bts text);have hl0:0<L.length:=by
  rcases Nat.eq_zero_or_pos L.length with e|e
  ·rw[List.length_eq_zero_iff.1 e]at hm;exact absurd hm.symm hne
  ·exact e
 have e1:wI ((L.length:Int)-1)=((L.length-1:Nat):Int):=by rw[Zr (by omega) (by omega)];omega
 have hlast:(J4 (bts text)).getLast? =some (bts (L[L.length-1]'(by omega))):=by
  rw[←hm,List.getLast?_eq_getElem?,List.length_map,List.getElem?_map,List.getElem?_eq_getElem (by omega)];rfl
 have hL:QG (bts text)=if bts (L[L.length-1]'(by omega))=[]then (J4 (bts text)).dropLast else J4 (bts text):=by
  unfold QG;rw[hlast];by_cases e:bts (L[L.length-1]'(by omega))=[]
  ·rw[Ze e,Ze (by rw[e])]
  ·rw[Zc e,Zc (fun k=>e (Option.some.inj k))]
 by_cases he:bts (L[L.length-1]'(by omega))=[]
 ·refine ⟨L.take (L.length-1),?_,?_⟩
  ·refine Za hsp ?_;dsimp only;rw[Zs,e1,Zp (by omega),Zl (by omega),Qn .s L (L.length-1) (by omega),eqW,Zp (by omega)];show (bif true then (bif true then (bif decide (bts (L[L.length-1]'(by omega))=[])then _ else _)else _)else _)=_
   rw[ZB he,Int.toNat_natCast];rfl
  ·rw[hL,Ze he,←hm,List.map_take,List.dropLast_eq_take,List.length_map]
 ·refine ⟨L,?_,?_⟩
  ·refine Za hsp ?_;dsimp only;rw[Zs,e1,Zp (by omega),Zl (by omega),Qn .s L (L.length-1) (by omega),eqW];show (bif true then (bif true then (bif decide (bts (L[L.length-1]'(by omega))=[])then _ else _)else _)else _)=_
   rw[Zw he];rfl
  ·rw[hL,Zc he,hm]
theorem ZfW (s:ByteArray): ∀(k i:Nat),i≤QI.length→QI.length-i<k→
  n176_0 k (QI.map fun l=>(⟨⟨l⟩⟩:ByteArray),(s,(((30:Nat):Int),()))) () ((i:Int),())=
   some ((match K6 s.data.toList (QI.drop i) i with|none=>Sum.inl (((30:Nat):Int),())|some j=>Sum.inr ((j:Int),())),())
 |0,_,_,h=>absurd h (by omega)
 |k+1,i,hi,hk=>by
  have h30:QI.length=30:=rfl;unfold n176_0 w176_0;dsimp only;rw[Zs,List.length_map];by_cases h:i<QI.length
  ·rw[Zl (show (i:Int)< ((30:Nat):Int) by omega),Zl (show (i:Int)< ((QI.length:Nat):Int) by omega),Zp (by omega),Zlz i h,eqW,Ql (by omega),J0 h];simp only[Zb];unfold K6;by_cases e:QI[i]=s.data.toList
   ·rw[ZB e.symm,Zb,Ze e]
   ·rw[Zw (fun k=>e k.symm),Zd,Zc e,ZfW s k (i+1) (by omega) (by omega)]
  ·obtain rfl:i=QI.length:=by omega
   rw[Zx (by omega),Zd,List.drop_length];rfl
theorem ZfR (s:ByteArray):r108 (s,())=some ((opA s.data.toList,()),()):=by
 unfold r108 m108 opA;have hn:r177 ()=some ((QI.map fun l=>(⟨⟨l⟩⟩:ByteArray),()),()):=rfl;refine Za hn ?_;have hi:r176 (QI.map fun l=>(⟨⟨l⟩⟩:ByteArray),(s,()))=some ((opA s.data.toList,()),()):=by
  unfold r176 m176 opA;have h:=ZfW s fuel 0 (Nat.zero_le _) (by have:=ZZ;have:QI.length=30:=rfl;omega);rw[List.drop_zero]at h;refine Za h ?_;cases K6 s.data.toList QI 0 with
  |none=>rfl
  |some j=>rfl
 exact Za hi rfl
theorem Zp7 (l:List UInt8):Zu l= -1∨0≤Zu l∧Zu l<100000:=by
 rcases Decidable.em (Zu l= -1)with e|e
 ·exact .inl e
 ·obtain ⟨n,h1,_,h3⟩:=ZdA e;right;omega
theorem ZdH (b:ByteArray) (hb:b.data.toList.length≤4000000) (most:Int) (hm:most<100000):
  r29 (b,(most,()))=some (((if 0≤Zu b.data.toList∧Zu b.data.toList≤most then (Zu b.data.toList,true)else (0,false):Int×Bool).1,((if 0≤Zu b.data.toList∧Zu b.data.toList≤most then (Zu b.data.toList,true)else (0,false):Int×Bool).2,())),()):=by
 have h:Nat.ble (ByteArray.size b) 281474976710656=true:=by rw[Nat.ble_eq,Lib.size_eq];omega
 rw[←ZnQ _ _ hm];show (bif Nat.ble (ByteArray.size b) 281474976710656 then some (((J2 b.data.toList most).1,((J2 b.data.toList most).2,())),())else none)=_
 rw[h];rfl
theorem Zft: ∀{l:List UInt8} {p:List UInt8×List UInt8},Jl l=some p→p.1.length≤l.length∧p.2.length≤l.length
 | [],_,h=>by cases h
 |c::l,p,h=>by
  unfold Jl at h;split at h
  ·injection h with h;subst h;simp
  ·cases hc:Jl l with
   |none=>rw[hc]at h;cases h
   |some q=>
    rw[hc]at h;injection h with h
    subst h;obtain ⟨a,b⟩:=Zft hc;simp;omega
theorem Zjo (line:ByteArray) (hs:line.data.toList.length≤4000000) (hat: ∀b,Jl line.data.toList≠some (atW,b)):
  ∃x:List Int,r49 (line,())=some ((x,((QR line.data.toList).isSome,())),())∧ ∀y,QR line.data.toList=some y→y=(x,-1):=by
 have hat1:opA atW= -1:=rfl;have cut:r107 (line,(bz [32],()))=some ((bz (Lib.cut line.data.toList [32]).1,(bz (Lib.cut line.data.toList [32]).2.1,((Lib.cut line.data.toList [32]).2.2,()))),()):=by
  show (bif Nat.blt (ByteArray.size line) 4294967281 then some ((bz (Lib.cut line.data.toList [32]).1,(bz (Lib.cut line.data.toList [32]).2.1,((Lib.cut line.data.toList [32]).2.2,()))),())else none)=_
  rw[show Nat.blt (ByteArray.size line) 4294967281=true by rw[Nat.blt_eq,Lib.size_eq];omega];rfl
 rw[Zrx]at cut;unfold r49 m49;rw[cut];generalize hL:line.data.toList=l at*;have none': ∀x:List Int,QR l=none→ ∃z:List Int,some (((x,(false,())),()):PTup o49×BTup i49)=some ((z,((QR l).isSome,())),())∧ ∀y,QR l=some y→y=(z,-1):=fun x h=>⟨x,by rw[h];rfl,fun y hy=>by rw[h]at hy;cases hy⟩;have some': ∀x:List Int,QR l=some (x,-1)→ ∃z:List Int,some (((x,(true,())),()):PTup o49×BTup i49)=some ((z,((QR l).isSome,())),())∧ ∀y,QR l=some y→y=(z,-1):=fun x h=>⟨x,by rw[h];rfl,fun y hy=>by rw[h]at hy;exact (Option.some.inj hy).symm⟩;cases hc:Jl l with
 |none=>
  have hM:QR l=if l=atW∨l=XA∨opA l<0 then none else if Qh (opA l)=1 then some ([opA l],-1)else none:=by unfold QR;rw[hc]
  simp only[Zo];rw[ZfR,ZdH (bz []) (by simp) 255 (by decide),ZdH (bz []) (by simp) 65535 (by decide)];simp only[Zo];show∃x:List Int,(bif ((bz l).toList==(bz XA).toList)then some ((([0]:List Int),(false,())),())else bif ltI (opA l) 0 then some (([],(false,())),())else (r109 (opA l,())).bind fun v3=>bif eqI v3.1.1 1 then some (([opA l],(true,())),())else (r109 (opA l,())).bind fun v4=>bif eqI v4.1.1 2 then some (([opA l,0],(false,())),())else some (([opA l,Int.tmod 0 256,wI (Int.tdiv 0 256)],(false,())),()))=_∧_
  rw[eqW,ZaY];simp only[Zo];by_cases hb:l=XA
  ·rw[ZB hb,Zb];exact none' _ (by rw[hM,Ze (.inr (.inl hb))])
  rw[Zw hb,Zd];by_cases ho:opA l<0
  ·rw[Zl ho,Zb];exact none' _ (by rw[hM,Ze (.inr (.inr ho))])
  rw[Zx ho,Zd];have hn: ¬(l=atW∨l=XA∨opA l<0):=by
   rintro (h|h|h)
   ·rw[h,hat1]at ho;omega
   ·exact hb h
   ·exact ho h
  rw[Zc hn]at hM;by_cases h1:Qh (opA l)=1
  ·rw[Zn h1,Zb];exact some' _ (by rw[hM,Ze h1])
  rw[Zc h1]at hM;rw[Zi h1,Zd];by_cases h2:Qh (opA l)=2
  ·rw[Zn h2,Zb];exact none' _ hM
  ·rw[Zi h2,Zd];exact none' _ hM
 |some p=>
  obtain ⟨w,b⟩:=p;have hwa:w≠atW:=fun e=>hat b (by rw[hc,e]);have hbl:=(Zft hc).2;have hM:QR l=if Zu b<0 then none
   else if w=XA then (if Zu b≤255 then some ([Zu b],-1)else none)
   else if opA w<0 then none
   else if Qh (opA w)=1 then none
   else if Qh (opA w)=2 then (if Zu b≤255 then some ([opA w,Zu b],-1)else none)
   else if Zu b≤65535 then some ([opA w,Zu b%256,Zu b/256],-1)else none:=by unfold QR;rw[hc];dsimp only;rw[Zc hwa]
  simp only[Zo];rw[ZfR,ZdH (bz b) (by dsimp only at hbl⊢;omega) 255 (by decide),ZdH (bz b) (by dsimp only at hbl⊢;omega) 65535 (by decide)];simp only[Zo];rw[ZaY];simp only[Zo];rw[eqW];show∃x:List Int,(bif decide (w=XA)then _ else bif ltI (opA w) 0 then _ else bif eqI (Qh (opA w)) 1 then _ else bif eqI (Qh (opA w)) 2 then _ else _)=_∧_
  have hnb:=Zp7 b;by_cases hb:w=XA
  ·rw[Ze hb]at hM;rw[ZB hb,Zb];by_cases h255:0≤Zu b∧Zu b≤255
   ·rw[Zc (by omega),Ze h255.2]at hM;rw[Ze h255];exact some' _ hM
   ·rw[Zc h255];refine none' _ ?_;rw[hM];by_cases hn:Zu b<0
    ·rw[Ze hn]
    ·rw[Zc hn,Zc (by omega)]
  rw[Zc hb]at hM;rw[Zw hb,Zd];by_cases ho:opA w<0
  ·rw[Zl ho,Zb];refine none' _ ?_;rw[hM,Ze ho,ite_self]
  rw[Zc ho]at hM;rw[Zx ho,Zd];by_cases h1:Qh (opA w)=1
  ·rw[Zn h1,Zb];refine none' _ ?_;rw[hM,Ze h1,ite_self]
  rw[Zc h1]at hM;rw[Zi h1,Zd];by_cases h2:Qh (opA w)=2
  ·rw[Ze h2]at hM;rw[Zn h2,Zb];by_cases h255:0≤Zu b∧Zu b≤255
   ·rw[Zc (by omega),Ze h255.2]at hM;rw[Ze h255];exact some' _ hM
   ·rw[Zc h255];refine none' _ ?_;rw[hM];by_cases hn:Zu b<0
    ·rw[Ze hn]
    ·rw[Zc hn,Zc (by omega)]
  ·rw[Zc h2]at hM;rw[Zi h2,Zd];by_cases h6:0≤Zu b∧Zu b≤65535
   ·rw[Zc (by omega),Ze h6.2]at hM;rw[Ze h6];dsimp only;rw[Int.tmod_eq_emod_of_nonneg h6.1,Ua h6.1,Zr (by omega) (by omega)];exact some' _ hM
   ·rw[Zc h6];refine none' _ ?_;rw[hM];by_cases hn:Zu b<0
    ·rw[Ze hn]
    ·rw[Zc hn,Zc (by omega)]
theorem Zdo (l:List Int) (hl3:l.length≤3): ∀(k i:Nat) (a:Int) (out:List Int),i≤l.length→l.length-i<k→out.length=256→0≤a→a≤255→
  n22_0 r49 r15 r29 r26 k (l,((l.length:Int),())) () (a,((i:Int),(out,())))=some (Sum.inl ((Ye (l.drop i) a out).2,(((l.length:Nat):Int),((Ye (l.drop i) a out).1,()))),())
 |0,_,_,_,_,h,_,_,_=>absurd h (by omega)
 |k+1,i,a,out,hi,hk,ho,h0,h1=>by
  unfold n22_0 w22_0;dsimp only;rw[Zs,Zs,ho];by_cases h:i<l.length
  ·rw[Zl (show (i:Int)< (l.length:Int) by omega),Zp (show (0:Int)≤(i:Int) by omega),Zp h0,Zl (show a< ((256:Nat):Int) by omega),Qn .i l i h,Ql (by omega),Zr (x:=a+1) (by omega) (by omega),Int.tmod_eq_emod_of_nonneg (show (0:Int)≤a+1 by omega)];simp only[Zb];rw[Zdo l hl3 k (i+1) ((a+1)%256) (out.set a.toNat l[i]) (by omega) (by omega) (by rw[List.length_set];exact ho) (by omega) (by omega),J0 h,Ye]
  ·obtain rfl:i=l.length:=by omega
   rw[Zx (by omega),Zd,List.drop_length];rfl
def Zqi (R:List Int×Int) (r:Sum (PTup lv22_1) (PTup lr22_1)×BTup lb22_1):Prop:=(∃a' i':Int,r=(Sum.inl (a',(i',(R.1,()))),())∧R.2=0)∨r=(Sum.inr (R.1,(R.2,())),())
theorem ZaB (L:List ByteArray) (hL:L.length≤1000000) (hb: ∀x,x∈L→(bts x).length≤4000000): ∀(k i:Nat) (a:Int) (out:List Int),i≤L.length→L.length-i<k→out.length=256→J7 out→0≤a→a≤255→
  Ans (n22_1 r49 r15 r29 r26 L22_0 k (L,((L.length:Int),())) () (a,((i:Int),(out,())))) (Zqi (Y3 ((L.drop i).map bts) (i:Int) a out))
 |0,_,_,_,_,h,_,_,_,_=>absurd h (by omega)
 |k+1,i,a,out,hi,hk,ho,hbo,h0,h1=>by
  unfold n22_1 w22_1;dsimp only;rw[Zs];by_cases h:i<L.length
  ·have hbl:(bts L[i]).length≤4000000:=hb _ (List.getElem_mem h);rw[Zl (show (i:Int)< (L.length:Int) by omega),Zp (show (0:Int)≤(i:Int) by omega),Qn .s L i h,Ql (by omega),eqW,J0 h,List.map_cons];simp only[Zb];show Ans (bif decide (bts L[i]=[])then _ else _) _
   unfold Y3;by_cases e0:bts L[i]=[]
   ·rw[ZB e0,Zb,Ze e0];have:=ZaB L hL hb k (i+1) a out (by omega) (by omega) ho hbo h0 h1;rw[Int.natCast_add,Int.natCast_one]at this⊢;exact this
   rw[Zw e0,Zd,Zc e0];have hcp:r26 (L[i],(bz [97,116,32],()))=some ((bz (Lib.trimPrefix (bts L[i]) (atW++[32])),(Lib.hasPrefix (bts L[i]) (atW++[32]),())),()):=rfl;refine (Ans.of hcp).bind ?_;rintro _ rfl;dsimp only;rcases ZjC atW (bts L[i]) (by decide)with ⟨hp,b,hcb,ht⟩| ⟨hp,hn⟩
   ·rw[hp,Zb,ht];have hbb:=(Zft hcb).2;refine (Ans.of (ZdH (bz b) (by dsimp only at hbb⊢;omega) 255 (by decide))).bind ?_;rintro _ rfl;have hM:QR (bts L[i])=if Zu b<0 then none else if Zu b≤255 then some ([],Zu b)else none:=by unfold QR;rw[hcb];dsimp only;rw[Ze rfl]
    rw[hM];show Ans (bif !(if 0≤Zu b∧Zu b≤255 then (Zu b,true)else (0,false):Int×Bool).2 then _ else _) _
    have hnb:=Zp7 b;by_cases h255:0≤Zu b∧Zu b≤255
    ·rw[Ze h255,Zc (by omega),Ze h255.2];dsimp only;rw[ZM,Zd,Ze h255.1];have:=ZaB L hL hb k (i+1) (Zu b) out (by omega) (by omega) ho hbo h255.1 h255.2;rw[Int.natCast_add,Int.natCast_one]at this⊢;exact this
    ·rw[Zc h255];dsimp only;rw[QE,Zb];refine .ret (.inr ?_);by_cases hneg:Zu b<0
     ·rw[Ze hneg,Int.natCast_add,Int.natCast_one]
     ·rw[Zc hneg,Zc (by omega),Int.natCast_add,Int.natCast_one]
   ·rw[hp,Zd];obtain ⟨x,ex,hx⟩:=Zjo L[i] hbl hn;refine (Ans.of ex).bind ?_;rintro _ rfl;dsimp only;show Ans (bif !(QR (bts L[i])).isSome then _ else _) _
    have hx: ∀y,QR (bts L[i])=some y→y=(x,-1):=hx;cases hM:QR (bts L[i])with
    |none=>
     rw[Option.isSome_none,QE,Zb];refine .ret (.inr ?_);rw[Int.natCast_add,Int.natCast_one]
    |some p=>
     obtain rfl:=hx p hM;rw[Option.isSome_some,ZM,Zd];obtain ⟨b1,b2,_⟩:=Zkq hM;obtain ⟨q1,q2,q3,q4⟩:=ZlE x a out b1 hbo h0 h1;have hput:=Zdo x b2 fuel 0 a out (Nat.zero_le _) (by have:=ZZ;omega) ho h0 h1;rw[List.drop_zero]at hput;refine (Ans.of (show L22_0 (x,(Zf x,())) () (a,((0:Int),(out,())))=_ by rw[Zs];exact hput)).bind ?_;rintro _ rfl;have:=ZaB L hL hb k (i+1) (Ye x a out).2 (Ye x a out).1 (by omega) (by omega) (by rw[q2];exact ho) q1 q3 q4;rw[Int.natCast_add,Int.natCast_one]at this⊢;exact this
  ·obtain rfl:i=L.length:=by omega
   rw[Zx (by omega),Zd,List.drop_length];exact .ret (.inl ⟨a,_,rfl,rfl⟩)
theorem ZfL (s:ByteArray):r22 (s,())=some (((QH s.data.toList).1,((QH s.data.toList).2,())),()):=by
 have fin:Ans (r22 (s,())) fun r=>r=(((QH s.data.toList).1,((QH s.data.toList).2,())),()):=by
  unfold r22 m22 QH;dsimp only;have hsz:(s.size:Int)=(s.data.toList.length:Int):=by rw[Lib.size_eq]
  rw[hsz];by_cases h:3000<s.data.toList.length
  ·rw[Zl (by omega),Zb,Ze h];exact .ret rfl
  ·rw[Zx (by omega),Zd,Zc h];obtain ⟨L,eL,hL⟩:=ZhA s (by rw[Lib.size_eq];omega);obtain ⟨c1,c2⟩:=Zek _ (bts s) (Nat.le_refl _);have hb0:(bts s).length=s.data.toList.length:=rfl;have hlen:L.length≤3000:=by
    have:=congrArg List.length hL;rw[List.length_map]at this;omega
   refine (Ans.of eL).bind ?_;rintro _ rfl;dsimp only;rw[Zs];refine (ZaB L (by omega) (fun x hx=>by
    have:=c2 (bts x) (by rw[←hL];exact List.mem_map_of_mem hx);omega) fuel 0 0 (List.replicate 256 0) (Nat.zero_le _) (by have:=ZZ;omega) (List.length_replicate ..) (Zfm _) (by omega) (by omega)).bind ?_
   rw[List.drop_zero,hL];rintro _ (⟨a,i,rfl,h0⟩|rfl)
   ·refine .ret ?_;have h0:(Y3 (QG s.data.toList) 0 0 (List.replicate 256 0)).2=0:=h0;rw[h0];rfl
   ·exact .ret rfl
 obtain ⟨r,e,rfl⟩:=fin;exact e

end Go.Proofs.YtcbdldlphpjmbaaGreatDoor.Plain
