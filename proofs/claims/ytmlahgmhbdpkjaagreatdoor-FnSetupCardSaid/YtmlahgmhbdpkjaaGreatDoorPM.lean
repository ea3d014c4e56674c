/- Plain laws of the printed functions: Asm, Asm2, Rd, Asm3. No condition beyond those that each lemma states. -/
import Derived.Test.YtmlahgmhbdpkjaaGreatDoorPK
set_option linter.unusedVariables false
set_option linter.unusedSimpArgs false
namespace Go.Proofs.YtmlahgmhbdpkjaaGreatDoor.Plain
open Go Go.Tev
def opNs:List (List UInt8):=[[110,111,112],[108,100,105],[108,100,97],[115,116,97],[97,100,105],[115,98,105],[97,110,105],[111,114,105],[120,114,105],[99,112,105],[116,97,120],[116,120,97],[105,110,120],[100,101,120],[108,97,120],[115,97,120],[98,110,101],[98,101,113],[98,99,115],[106,109,112],[106,115,114],[114,116,115],[112,104,97],[112,108,97],[114,116,105],[115,101,105],[99,108,105],[115,101,99],[99,108,99],[97,100,97]]
def Zjl (s:List UInt8):List (List UInt8)→Nat→Option Nat
 | [],_=>none
 |x::r,i=>if x=s then some i else Zjl s r (i+1)
def opA (s:List UInt8):Int:=match Zjl s opNs 0 with|none=> -1|some i=>i
theorem ZrA (s:List UInt8): ∀(l:List (List UInt8)) (i j:Nat),Zjl s l i=some j→i≤j∧j<i+l.length
 | [],_,_,h=>by cases h
 |x::r,i,j,h=>by
  unfold Zjl at h
  split at h
  ·injection h with h;simp;omega
  ·have:=ZrA s r (i+1) j h
   simp;omega
theorem ZvU (s:List UInt8):opA s= -1∨0≤opA s∧opA s≤29:=by
 unfold opA
 cases h:Zjl s opNs 0 with
 |none=>exact .inl rfl
 |some j=>
  obtain ⟨_,b⟩:=ZrA s opNs 0 j h
  have:opNs.length=30:=rfl
  right;dsimp only;omega
def atW:List UInt8:=[97,116]
def ZgR:List UInt8:=[98,121,116,101]
def Zb2 (l:List UInt8):Option (List Int×Int):=match Zc2 l with
 |none=>if l=atW∨l=ZgR∨opA l<0 then none else if ZaP (opA l)=1 then some ([opA l],-1)else none
 |some p=>if numA p.2<0 then none
  else if p.1=atW then (if numA p.2≤255 then some ([],numA p.2)else none)
  else if p.1=ZgR then (if numA p.2≤255 then some ([numA p.2],-1)else none)
  else if opA p.1<0 then none
  else if ZaP (opA p.1)=1 then none
  else if ZaP (opA p.1)=2 then (if numA p.2≤255 then some ([opA p.1,numA p.2],-1)else none)
  else if numA p.2≤65535 then some ([opA p.1,numA p.2%256,numA p.2/256],-1)else none
def putM:List Int→Int→List Int→List Int×Int
 | [],a,out=>(out,a)
 |v::r,a,out=>putM r ((a+1)%256) (out.set a.toNat v)
def asmM:List (List UInt8)→Int→Int→List Int→List Int×Int
 | [],_,_,out=>(out,0)
 |l::r,m,a,out=>if l=[]then asmM r (m+1) a out else match Zb2 l with
  |none=>([],m+1)
  |some p=>asmM r (m+1) (putM p.1 (if 0≤p.2 then p.2 else a) out).2 (putM p.1 (if 0≤p.2 then p.2 else a) out).1
def Zan (l:List UInt8):List Int×Int:=if 3000<l.length then ([],-1)else asmM (Zcg l) 0 0 (List.replicate 256 0)
theorem Zof {l:List UInt8} {x:List Int} {t:Int} (h:Zb2 l=some (x,t)):Zb4 x∧x.length≤3∧t≤255:=by
 have one: ∀w:List UInt8,¬opA w<0→0≤opA w∧opA w≤255:=fun w hw=>by rcases ZvU w with e|e<;>omega
 unfold Zb2 at h
 split at h
 ·split at h
  ·cases h
  ·rename_i hn
   split at h
   ·injection h with h;injection h with h1 h2;subst h1 h2
    exact ⟨ZcD (one _ fun e=>hn (.inr (.inr e))) Zdw,by simp,by omega⟩
   ·cases h
 ·rename_i p _
  split at h
  ·cases h
  ·rename_i h0
   split at h
   ·split at h
    ·injection h with h;injection h with h1 h2;subst h1 h2
     exact ⟨Zdw,by simp,by assumption⟩
    ·cases h
   ·split at h
    ·split at h
     ·injection h with h;injection h with h1 h2;subst h1 h2
      exact ⟨ZcD ⟨by omega,by omega⟩ Zdw,by simp,by omega⟩
     ·cases h
    ·split at h
     ·cases h
     ·rename_i ho
      have ho:=one _ ho
      split at h
      ·cases h
      ·split at h
       ·split at h
        ·injection h with h;injection h with h1 h2;subst h1 h2
         exact ⟨ZcD ho (ZcD ⟨by omega,by omega⟩ Zdw),by simp,by omega⟩
        ·cases h
       ·split at h
        ·injection h with h;injection h with h1 h2;subst h1 h2
         exact ⟨ZcD ho (ZcD (mod256 _) (ZcD ⟨by omega,by omega⟩ Zdw)),by simp,by omega⟩
        ·cases h
theorem Zps: ∀(l:List Int) (a:Int) (out:List Int),Zb4 l→Zb4 out→0≤a→a≤255→Zb4 (putM l a out).1∧(putM l a out).1.length=out.length∧0≤(putM l a out).2∧(putM l a out).2≤255
 | [],a,out,_,h,h0,h1=>⟨h,rfl,h0,h1⟩
 |v::r,a,out,hl,h,h0,h1=>by
  obtain ⟨a1,a2,a3,a4⟩:=Zps r ((a+1)%256) (out.set a.toNat v) (fun x hx=>hl x (List.mem_cons_of_mem _ hx)) (Zra h _ (hl v List.mem_cons_self)) (by omega) (by omega)
  exact ⟨a1,by rw[putM,a2,List.length_set],a3,a4⟩
theorem Zq0: ∀(ls:List (List UInt8)) (m a:Int) (out:List Int),Zb4 out→out.length=256→0≤a→a≤255→Zb4 (asmM ls m a out).1∧((asmM ls m a out).2=0→(asmM ls m a out).1.length=256∨m<0)
 | [],m,a,out,h,hl,_,_=>⟨h,fun _=> .inl hl⟩
 |l::r,m,a,out,h,hl,h0,h1=>by
  unfold asmM
  split
  ·obtain ⟨a1,a2⟩:=Zq0 r (m+1) a out h hl h0 h1
   exact ⟨a1,fun e=>by rcases a2 e with e|e;exact .inl e;right;omega⟩
  ·split
   ·exact ⟨Zdw,fun e=> .inr (by dsimp only at e;omega)⟩
   ·rename_i p hp
    obtain ⟨b1,b2,b3⟩:=Zof (x:=p.1) (t:=p.2) hp
    obtain ⟨c1,c2,c3,c4⟩:=Zps p.1 (if 0≤p.2 then p.2 else a) out b1 h (by split<;>omega) (by split<;>omega)
    obtain ⟨a1,a2⟩:=Zq0 r (m+1) _ _ c1 (by rw[c2];exact hl) c3 c4
    exact ⟨a1,fun e=>by rcases a2 e with e|e;exact .inl e;right;omega⟩
theorem ZiZ (l:List UInt8):Zb4 (Zan l).1∧((Zan l).2=0→(Zan l).1.length=256):=by
 unfold Zan
 split
 ·exact ⟨Zdw,fun e=>by cases e⟩
 ·obtain ⟨a,b⟩:=Zq0 (Zcg l) 0 0 (List.replicate 256 0) (Zi3 _) (List.length_replicate ..) (by omega) (by omega)
  exact ⟨a,fun e=>by rcases b e with e|e;exact e;omega⟩
theorem Zqn:r152 ()=some ((opNs.map fun l=>(⟨⟨l⟩⟩:ByteArray),()),()):=rfl
theorem Zpk (i:Nat) (h:i<opNs.length):(rdE .s (opNs.map fun l=>(⟨⟨l⟩⟩:ByteArray)) (i:Int))=(⟨⟨opNs[i]⟩⟩:ByteArray):=by
 rw[ZaA .s _ i (by rw[List.length_map];exact h),List.getElem_map]
theorem Zlp (s:ByteArray): ∀(k i:Nat),i≤opNs.length→opNs.length-i<k→
  n112_0 r152 k (s,(opNs.map fun l=>(⟨⟨l⟩⟩:ByteArray),())) () ((i:Int),())=
   some ((match Zjl s.data.toList (opNs.drop i) i with|none=>Sum.inl (((30:Nat):Int),())|some j=>Sum.inr ((j:Int),())),())
 |0,_,_,h=>absurd h (by omega)
 |k+1,i,hi,hk=>by
  have h30:opNs.length=30:=rfl
  show (bif ltI (i:Int) (lenI (opNs.map fun l=>(⟨⟨l⟩⟩:ByteArray)))then (bif leI 0 (i:Int)then (bif ltI (i:Int) (lenI (opNs.map fun l=>(⟨⟨l⟩⟩:ByteArray)))then (bif ((rdE .s (opNs.map fun l=>(⟨⟨l⟩⟩:ByteArray)) (i:Int)).toList==s.toList)then some (Sum.inr ((i:Int),()),())
   else n112_0 r152 k (s,(opNs.map fun l=>(⟨⟨l⟩⟩:ByteArray),())) () (wI ((i:Int)+1),()))else none)else none)else some (Sum.inl ((i:Int),()),()))=_
  rw[Zab,List.length_map]
  by_cases h:i<opNs.length
  ·rw[Zaj (by omega),Zao (by omega),Zpk i h,ZtE _ s.data.toList s rfl,ZaW (by omega),ZaY h]
   simp only[cond_true]
   show (bif decide (opNs[i]=s.data.toList)then _ else _)=_
   unfold Zjl
   by_cases e:opNs[i]=s.data.toList
   ·rw[decide_eq_true e,cond_true,if_pos e]
   ·rw[decide_eq_false e,cond_false,if_neg e,Zlp s k (i+1) (by omega) (by omega)]
  ·obtain rfl:i=opNs.length:=by omega
   rw[ZaB (by omega),cond_false,List.drop_length]
   rfl
theorem Zkc (s:ByteArray):r112 (s,())=some ((opA s.data.toList,()),()):=by
 unfold r112 m112 opA
 refine Zaa Zqn ?_
 have h:=Zlp s fuel 0 (Nat.zero_le _) (by have:=Zat;have:opNs.length=30:=rfl;omega)
 rw[List.drop_zero]at h
 refine Zaa h ?_
 cases Zjl s.data.toList opNs 0 with
 |none=>rfl
 |some j=>rfl
theorem eqW (w:ByteArray) (l:List UInt8):(w.toList==(⟨⟨l⟩⟩:ByteArray).toList)=decide (w.data.toList=l):=ZtE w l _ rfl
theorem Zqo (s:ByteArray) (hs:s.data.toList.length≤4000000): ∃x:List Int×Int,r58 (s,())=some ((x.1,(x.2,((Zb2 s.data.toList).isSome,()))),())∧ ∀y,Zb2 s.data.toList=some y→x=y:=by
 unfold r58 m58
 rw[ZrG s hs]
 generalize hL:s.data.toList=l at*
 have none': ∀(x:List Int) (t:Int),Zb2 l=none→ ∃z:List Int×Int,some (((x,(t,(false,()))),()):PTup o58×BTup i58)=some ((z.1,(z.2,((Zb2 l).isSome,()))),())∧ ∀y,Zb2 l=some y→z=y:=fun x t h=>⟨(x,t),by rw[h];rfl,fun y hy=>by rw[h]at hy;cases hy⟩
 have some': ∀(x:List Int) (t:Int),Zb2 l=some (x,t)→ ∃z:List Int×Int,some (((x,(t,(true,()))),()):PTup o58×BTup i58)=some ((z.1,(z.2,((Zb2 l).isSome,()))),())∧ ∀y,Zb2 l=some y→z=y:=fun x t h=>⟨(x,t),by rw[h];rfl,fun y hy=>by rw[h]at hy;exact Option.some.inj hy⟩
 have len1:eqI 1 1=true:=rfl
 have len12:eqI 1 2=false:=rfl
 unfold ZuA
 rw[hL]
 cases hc:Zc2 l with
 |none=>
  have hM:Zb2 l=if l=atW∨l=ZgR∨opA l<0 then none else if ZaP (opA l)=1 then some ([opA l],-1)else none:=by unfold Zb2;rw[hc]
  dsimp only
  rw[Option.bind_some]
  dsimp only
  rw[Bool.not_true,cond_false,eqW,eqW,hL,ZbH]
  have i1: ∀hi:Int,inR 0 hi (-1)=false:=fun hi=>rfl
  simp only[i1,Option.bind_some,Bool.not_false,cond_true]
  by_cases ha:l=[97,116]
  ·rw[decide_eq_true ha,cond_true]
   exact none' _ _ (by rw[hM,if_pos (.inl ha)])
  rw[decide_eq_false ha,cond_false]
  by_cases hb:l=[98,121,116,101]
  ·rw[decide_eq_true hb,cond_true]
   exact none' _ _ (by rw[hM,if_pos (.inr (.inl hb))])
  rw[decide_eq_false hb,cond_false,Zkc,hL]
  simp only[Option.bind_some]
  by_cases ho:opA l<0
  ·rw[Zaj ho,cond_true]
   exact none' _ _ (by rw[hM,if_pos (.inr (.inr ho))])
  rw[ZaB ho,cond_false,Ziq]
  simp only[Option.bind_some]
  have hn: ¬(l=atW∨l=ZgR∨opA l<0):=by rintro (h|h|h);exact ha h;exact hb h;exact ho h
  rw[if_neg hn]at hM
  by_cases h1:ZaP (opA l)=1
  ·rw[Zav h1,cond_true]
   exact some' _ _ (by rw[hM,if_pos h1])
  rw[if_neg h1]at hM
  rw[Zaq h1,cond_false]
  by_cases h2:ZaP (opA l)=2
  ·rw[Zav h2,cond_true,ZbU]
   exact none' _ _ hM
  ·rw[Zaq h2,cond_false,ZbU]
   simp only[Option.bind_some]
   rw[ZbU]
   exact none' _ _ hM
 |some p=>
  obtain ⟨w,b⟩:=p
  have hM:Zb2 l=if numA b<0 then none
   else if w=atW then (if numA b≤255 then some ([],numA b)else none)
   else if w=ZgR then (if numA b≤255 then some ([numA b],-1)else none)
   else if opA w<0 then none
   else if ZaP (opA w)=1 then none
   else if ZaP (opA w)=2 then (if numA b≤255 then some ([opA w,numA b],-1)else none)
   else if numA b≤65535 then some ([opA w,numA b%256,numA b/256],-1)else none:=by unfold Zb2;rw[hc]
  dsimp only
  rw[Option.bind_some]
  dsimp only
  by_cases h0:numA b<0
  ·rw[Zf5 (by omega),Bool.not_false,cond_true]
   exact none' _ _ (by rw[hM,if_pos h0])
  rw[if_neg h0]at hM
  have hB:numA b<100000:=by
   rcases Decidable.em (numA b= -1)with e|e
   ·omega
   ·obtain ⟨n,h1,_,h3⟩:=Zg8 e
    omega
  rw[Zao (by omega),Bool.not_true,cond_false,eqW,eqW,ZbH]
  simp only[Option.bind_some]
  have hin: ∀hi:Int,inR 0 hi (numA b)=leI (numA b) hi:=fun hi=>by unfold inR;rw[Zao (by omega),Bool.true_and]
  rw[hin]
  by_cases ha:w=[97,116]
  ·rw[if_pos (show w=atW from ha)]at hM
   rw[decide_eq_true ha,cond_true,cond_true]
   by_cases h255:numA b≤255
   ·rw[Zao h255,Bool.not_true,cond_false]
    exact some' _ _ (by rw[hM,if_pos h255])
   ·rw[Zf5 h255,Bool.not_false,cond_true]
    exact none' _ _ (by rw[hM,if_neg h255])
  rw[if_neg (show¬w=atW from ha)]at hM
  rw[decide_eq_false ha,cond_false]
  by_cases hb:w=[98,121,116,101]
  ·rw[if_pos (show w=ZgR from hb)]at hM
   rw[decide_eq_true hb,cond_true]
   by_cases h255:numA b≤255
   ·rw[Zao h255,Bool.not_true,cond_false,cond_false]
    exact some' _ _ (by rw[hM,if_pos h255])
   ·rw[Zf5 h255,Bool.not_false,cond_true]
    exact none' _ _ (by rw[hM,if_neg h255])
  rw[if_neg (show¬w=ZgR from hb)]at hM
  rw[decide_eq_false hb,cond_false,Zkc]
  simp only[Option.bind_some]
  show∃x:List Int×Int,(bif ltI (opA w) 0 then _ else _)=_∧_
  by_cases ho:opA w<0
  ·rw[Zaj ho,cond_true]
   exact none' _ _ (by rw[hM,if_pos ho])
  rw[if_neg ho]at hM
  rw[ZaB ho,cond_false,Ziq]
  simp only[Option.bind_some]
  show∃x:List Int×Int,(bif eqI (ZaP (opA w)) 1 then _ else _)=_∧_
  by_cases h1:ZaP (opA w)=1
  ·rw[if_pos h1]at hM
   rw[Zav h1,cond_true,ZaB h0]
   exact none' _ _ hM
  rw[if_neg h1]at hM
  rw[Zaq h1,cond_false]
  by_cases h2:ZaP (opA w)=2
  ·rw[if_pos h2]at hM
   rw[Zav h2,cond_true,ZbU]
   simp only[Option.bind_some]
   show∃x:List Int×Int,some (((opA w::(numA b%256::[]),(-(1:Int),(leI (numA b) 255,()))),()):PTup o58×BTup i58)=_∧_
   by_cases h255:numA b≤255
   ·rw[Zao h255,show numA b%256=numA b by omega]
    exact some' _ _ (hM.trans (if_pos h255))
   ·rw[Zf5 h255]
    exact none' _ _ (by rw[hM,if_neg h255])
  ·rw[if_neg h2]at hM
   rw[Zaq h2,cond_false,ZbU,ZbU,ZbH]
   simp only[Option.bind_some]
   show∃x:List Int×Int,some (((opA w::(numA b%256::(Int.fdiv (numA b) 256%256::[])),(-(1:Int),(inR 0 65535 (numA b),()))),()):PTup o58×BTup i58)=_∧_
   rw[hin]
   by_cases h255:numA b≤65535
   ·rw[Zao h255,Int.fdiv_eq_ediv_of_nonneg _ (by decide),show numA b/256%256=numA b/256 by omega]
    exact some' _ _ (hM.trans (if_pos h255))
   ·rw[Zf5 h255]
    exact none' _ _ (by rw[hM,if_neg h255])
theorem Zia (l:List Int) (hl3:l.length≤3): ∀(k i:Nat) (a:Int) (out:List Int),i≤l.length→l.length-i<k→out.length=256→0≤a→a+((l.length-i:Nat):Int)≤100000→
  ∃a':Int,n19_0 r59 r58 k (l,()) () (a,((i:Int),(out,())))=some (Sum.inl (a',(((l.length:Nat):Int),((putM (l.drop i) (a%256) out).1,()))),())∧a'%256=(putM (l.drop i) (a%256) out).2∧a≤a'∧a'≤a+((l.length-i:Nat):Int)
 |0,_,_,_,_,h,_,_,_=>absurd h (by omega)
 |k+1,i,a,out,hi,hk,ho,h0,h1=>by
  unfold n19_0 w19_0
  dsimp only
  rw[Zab]
  by_cases h:i<l.length
  ·have hm:=mod256 a
   have e1:wI ((i:Int)+1)=((i+1:Nat):Int):=ZaW (by omega)
   have e2:wI (a+1)=a+1:=Zau (by omega) (by omega)
   have e3:a%256< ((256:Nat):Int):=by omega
   rw[Zaj (show (i:Int)< (l.length:Int) by omega),cond_true,ZbU]
   simp only[Option.bind_some]
   rw[Zab,ho,Zao (show (0:Int)≤(i:Int) by omega),Zao hm.1,Zaj e3,ZaA .i l i h,e1,e2]
   simp only[cond_true]
   obtain ⟨a',e1,e2,e3,e4⟩:=Zia l hl3 k (i+1) (a+1) (out.set (a%256).toNat l[i]) (by omega) (by omega) (by rw[List.length_set];exact ho) (by omega) (by omega)
   refine ⟨a',?_,?_,by omega,by omega⟩
   ·rw[e1,ZaY h,putM,show (a+1)%256=(a%256+1)%256 by omega]
   ·rw[e2,ZaY h,putM,show (a+1)%256=(a%256+1)%256 by omega]
  ·obtain rfl:i=l.length:=by omega
   rw[ZaB (by omega),cond_false,List.drop_length]
   exact ⟨a,rfl,rfl,by omega,by omega⟩
def ZoQ (R:List Int×Int) (r:Sum (PTup lv19_1) (PTup lr19_1)×BTup lb19_1):Prop:=(∃a' f' m' i':Int,r=(Sum.inl (a',(f',(m',(i',(R.1,()))))),())∧R.2=0)∨r=(Sum.inr (R.1,(R.2,())),())
theorem Zsu {l:List UInt8} {f i:Nat} (hf:f≤i) (h:i<l.length):(l.drop f).take (i+1-f)=(l.drop f).take (i-f)++[l[i]]:=by
 rw[show i+1-f=(i-f)+1 by omega,List.take_succ_eq_append_getElem (by rw[List.length_drop];omega),List.getElem_drop]
 simp only[show f+(i-f)=i by omega]
theorem Zfj (s:ByteArray) (hs:s.data.toList.length≤3000): ∀(k i f:Nat) (m a:Int) (out:List Int),f≤i→i≤s.data.toList.length+1→(i=s.data.toList.length+1→s.data.toList.length≤f)→s.data.toList.length+1-i<k→
  ¬(10:UInt8)∈(s.data.toList.drop f).take (i-f)→out.length=256→Zb4 out→0≤a→a≤255+3*(f:Int)→0≤m→m≤(f:Int)→
  Ans (n19_1 r59 r58 L19_0 k (s,()) () (a,((f:Int),(m,((i:Int),(out,())))))) (ZoQ (asmM (Zcg (s.data.toList.drop f)) m (a%256) out))
 |0,_,_,_,_,_,_,_,_,h,_,_,_,_,_,_,_=>absurd h (by omega)
 |k+1,i,f,m,a,out,hf,hi,hlast,hk,hno,ho,hb,a0,a1,m0,m1=>by
  have hsz:(s.size:Int)=(s.data.toList.length:Int):=by rw[Lib.size_eq]
  unfold n19_1 w19_1
  dsimp only
  rw[hsz]
  by_cases hc:i≤s.data.toList.length
  ·have e1:wI ((i:Int)+1)=((i+1:Nat):Int):=ZaW (by omega)
   have e2:wI (m+1)=m+1:=Zau (by omega) (by omega)
   simp only[Zao (show (i:Int)≤(s.data.toList.length:Int) by omega),Zao (show (0:Int)≤(i:Int) by omega),Zao (show (0:Int)≤(f:Int) by omega),Zao (show (f:Int)≤(i:Int) by omega),cond_true,e1,e2]
   have line: ∀cur:List UInt8,(s.extract (Int.toNat (f:Int)) (Int.toNat (i:Int))).data.toList=cur→Zcg (s.data.toList.drop f)=cur::Zcg (s.data.toList.drop (i+1))→
     Ans (bif ((s.extract (Int.toNat (f:Int)) (Int.toNat (i:Int))).toList==(bz []).toList)then n19_1 r59 r58 L19_0 k (s,()) () (a,(((i+1:Nat):Int),(m+1,(((i+1:Nat):Int),(out,())))))
      else (r58 (s.extract (Int.toNat (f:Int)) (Int.toNat (i:Int)),())).bind fun r0=>bif !r0.1.2.2.1 then some (Sum.inr ([],(m+1,())),())
       else bif leI 0 r0.1.2.1 then (L19_0 (r0.1.1,()) () (r0.1.2.1,((0:Int),(out,())))).bind fun r1=>Zai r1.1 (fun r2=>n19_1 r59 r58 L19_0 k (s,()) () (r2.1,(((i+1:Nat):Int),(m+1,(((i+1:Nat):Int),r2.2.2))))) fun r2=>none
       else (L19_0 (r0.1.1,()) () (a,((0:Int),(out,())))).bind fun r1=>Zai r1.1 (fun r2=>n19_1 r59 r58 L19_0 k (s,()) () (r2.1,(((i+1:Nat):Int),(m+1,(((i+1:Nat):Int),r2.2.2))))) fun r2=>none) (ZoQ (asmM (Zcg (s.data.toList.drop f)) m (a%256) out)):=fun cur hcur hl=>by
    have hcl:cur.length≤3000:=by rw[←hcur,extr,List.length_drop,List.length_take];omega
    rw[hl,eqW,hcur]
    unfold asmM
    by_cases h0:cur=[]
    ·rw[decide_eq_true h0,cond_true,if_pos h0]
     exact Zfj s hs k (i+1) (i+1) (m+1) a out (Nat.le_refl _) (by omega) (fun _=>by omega) (by omega) (by simp) ho hb a0 (by omega) (by omega) (by omega)
    rw[decide_eq_false h0,cond_false,if_neg h0]
    obtain ⟨x,ex,hx⟩:=Zqo (s.extract (Int.toNat (f:Int)) (Int.toNat (i:Int))) (by rw[hcur];omega)
    rw[hcur]at ex hx
    refine (Ans.of ex).bind ?_
    rintro _ rfl
    dsimp only
    cases hM:Zb2 cur with
    |none=>
     rw[Option.isSome_none,Bool.not_false,cond_true]
     exact .ret (.inr rfl)
    |some p=>
     obtain rfl:=hx p hM
     rw[Option.isSome_some,Bool.not_true,cond_false]
     obtain ⟨b1,b2,b3⟩:=Zof (x:=x.1) (t:=x.2) hM
     have go: ∀a2:Int,0≤a2→a2≤255+3*(f:Int)→Ans ((L19_0 (x.1,()) () (a2,((0:Int),(out,())))).bind fun r1=>Zai r1.1 (fun r2=>n19_1 r59 r58 L19_0 k (s,()) () (r2.1,(((i+1:Nat):Int),(m+1,(((i+1:Nat):Int),r2.2.2))))) fun r2=>none)
       (ZoQ (asmM (Zcg (s.data.toList.drop (i+1))) (m+1) (putM x.1 (a2%256) out).2 (putM x.1 (a2%256) out).1)):=fun a2 h1 h2=>by
      obtain ⟨a',p1,p2,p3,p4⟩:=Zia x.1 b2 fuel 0 a2 out (Nat.zero_le _) (by have:=Zat;omega) ho h1 (by omega)
      rw[List.drop_zero]at p1 p2
      obtain ⟨q1,q2,_,_⟩:=Zps x.1 (a2%256) out b1 hb (mod256 _).1 (mod256 _).2
      refine (Ans.of p1).bind ?_
      rintro _ rfl
      rw[←p2]
      exact Zfj s hs k (i+1) (i+1) (m+1) a' _ (Nat.le_refl _) (by omega) (fun _=>by omega) (by omega) (by simp) (by rw[q2];exact ho) q1 (by omega) (by omega) (by omega) (by omega)
     show Ans _ (ZoQ (asmM (Zcg (s.data.toList.drop (i+1))) (m+1) (putM x.1 (if 0≤x.2 then x.2 else a%256) out).2 (putM x.1 (if 0≤x.2 then x.2 else a%256) out).1))
     by_cases ht:0≤x.2
     ·rw[Zao ht,cond_true,if_pos ht]
      have:=go x.2 ht (by omega)
      rw[show x.2%256=x.2 by omega]at this
      exact this
     ·rw[Zf5 ht,cond_false,if_neg ht]
      exact go a a0 a1
   have ecur:(s.extract (Int.toNat (f:Int)) (Int.toNat (i:Int))).data.toList=(s.data.toList.drop f).take (i-f):=by
    rw[extr,Int.toNat_natCast,Int.toNat_natCast,List.drop_take]
   by_cases hlt:i<s.data.toList.length
   ·simp only[Zaj (show (i:Int)< (s.data.toList.length:Int) by omega),Zaq (show¬(i:Int)=(s.data.toList.length:Int) by omega),cond_true,cond_false,Zue s i hlt]
    by_cases h10:s.data.toList[i]=10
    ·rw[ZdJ (show ((s.data.toList[i]).toNat:Int)=10 by rw[h10];rfl),cond_false]
     refine line _ ecur ?_
     have e3:s.data.toList.drop f=(s.data.toList.drop f).take (i-f)++10::s.data.toList.drop (i+1):=by
      have e4:(s.data.toList.drop f).drop (i-f)=10::s.data.toList.drop (i+1):=by
       rw[List.drop_drop,show f+(i-f)=i by omega,ZaY hlt,h10]
      rw[←e4,List.take_append_drop]
     conv=>lhs;rw[e3]
     exact Zlj _ hno
    ·rw[Zdh (show¬((s.data.toList[i]).toNat:Int)=10 from fun e=>h10 (UInt8.toNat_inj.1 (by show _=10;omega))),cond_true]
     exact Zfj s hs k (i+1) f m a out (by omega) (by omega) (fun e=>by omega) (by omega) (by
      rw[Zsu hf hlt]
      intro e
      rcases List.mem_append.1 e with e|e
      ·exact hno e
      ·exact h10 (List.mem_singleton.1 e).symm) ho hb a0 a1 m0 m1
   ·obtain rfl:i=s.data.toList.length:=by omega
    simp only[ZaB (show¬(s.data.toList.length:Int)< (s.data.toList.length:Int) by omega),Zav rfl,cond_true,cond_false]
    have etake:(s.data.toList.drop f).take (s.data.toList.length-f)=s.data.toList.drop f:=List.take_of_length_le (by rw[List.length_drop];omega)
    by_cases hfe:f=s.data.toList.length
    ·rw[Zav (show (f:Int)=(s.data.toList.length:Int) by omega),cond_true]
     exact Zfj s hs k (s.data.toList.length+1) f m a out (by omega) (by omega) (fun _=>by omega) (by omega) (by rw[hfe,List.drop_length];simp) ho hb a0 a1 m0 m1
    ·rw[Zaq (show¬(f:Int)=(s.data.toList.length:Int) by omega),cond_false]
     refine line _ ecur ?_
     rw[etake]at hno⊢
     rw[ZjB hno,if_neg (fun e=>by have:=congrArg List.length e;rw[List.length_drop,List.length_nil]at this;omega),List.drop_of_length_le (show s.data.toList.length≤s.data.toList.length+1 by omega)]
     rfl
  ·obtain rfl:i=s.data.toList.length+1:=by omega
   rw[Zf5 (by omega),cond_false,List.drop_of_length_le (hlast rfl)]
   exact .ret (.inl ⟨a,(f:Int),m,((s.data.toList.length+1:Nat):Int),rfl,rfl⟩)
theorem Zj9 (s:ByteArray):r19 (s,())=some (((Zan s.data.toList).1,((Zan s.data.toList).2,())),()):=by
 have fin:Ans (r19 (s,())) fun r=>r=(((Zan s.data.toList).1,((Zan s.data.toList).2,())),()):=by
  unfold r19 m19 Zan
  dsimp only
  have hsz:(s.size:Int)=(s.data.toList.length:Int):=by rw[Lib.size_eq]
  rw[hsz]
  by_cases h:3000<s.data.toList.length
  ·rw[Zaj (by omega),cond_true,if_pos h]
   exact .ret rfl
  ·rw[ZaB (by omega),cond_false,if_neg h]
   refine (Zfj s (by omega) fuel 0 0 0 0 (List.replicate 256 0) (Nat.le_refl _) (by omega) (fun e=>by omega) (by have:=Zat;omega) (by simp) (List.length_replicate ..) (Zi3 _) (by omega) (by omega) (by omega) (by omega)).bind ?_
   rintro _ (⟨a,f,m,i,rfl,h0⟩|rfl)
   ·refine .ret ?_
    rw[List.drop_zero]at h0⊢
    have h0:(asmM (Zcg s.data.toList) 0 0 (List.replicate 256 0)).2=0:=h0
    rw[h0]
    rfl
   ·exact .ret rfl
 obtain ⟨r,e,rfl⟩:=fin
 exact e
theorem ZuH (l:List UInt8) (most:Int) (hm:most<100000):numR l most=if 0≤numA l∧numA l≤most then (numA l,true)else (0,false):=by
 unfold numR
 by_cases h:numA l= -1
 ·rw[h,if_neg (by omega)]
  rw[ZrQ]at h
  cases e:Lib.atoiAll l with
  |ok v=>
   dsimp only
   rw[if_neg]
   rintro ⟨h0,h1,h2⟩
   obtain ⟨n,rfl⟩:=Int.eq_ofNat_of_zero_le h0
   rw[Zo4]at h2
   exact h n (by omega) h2.symm
  |range=>rfl
  |_=>rfl
 ·obtain ⟨n,h1,h2,h3⟩:=Zg8 h
  rw[h3,h2,ZsM h1]
  dsimp only
  rw[Zo4]
  by_cases hn:(n:Int)≤most
  ·rw[if_pos ⟨by omega,hn,rfl⟩,if_pos ⟨by omega,hn⟩]
  ·rw[if_neg (by rintro ⟨_,a,_⟩;exact hn a),if_neg (by rintro ⟨_,a⟩;exact hn a)]
abbrev bts (b:ByteArray):List UInt8:=b.data.toList
theorem Zqq (text:ByteArray) (h:text.size<4294967281): ∃L:List ByteArray,r41 (text,())=some ((L,()),())∧L.map bts=Zcg (bts text):=by
 unfold r41 m41
 have hsp:r85 (text,(bz [10],()))=some ((Lib.splitB (bz [10]) 0 (Lib.countB text (bz [10])) text,()),()):=by
  show (bif Nat.blt (ByteArray.size text) 4294967281&&Nat.ble 1 (ByteArray.size (bz [10]))then some ((Lib.splitB (bz [10]) 0 (Lib.countB text (bz [10])) text,()),())else none)=_
  rw[show Nat.blt (ByteArray.size text) 4294967281=true by rw[Nat.blt_eq];exact h]
  rfl
 have hm:(Lib.splitB (bz [10]) 0 (Lib.countB text (bz [10])) text).map bts=Zbs (bts text):=ZtC text (bz [10]) rfl
 have hlen:=Lib.splitB_length_le (bz [10]) 0 (Lib.countB text (bz [10])) text
 have hc:Lib.countB text (bz [10])≤4294967282:=by
  have:=Lib.count_le text.data.toList (bz [10]).data.toList
  rw[←Lib.size_eq]at this
  show Lib.count _ _≤_
  omega
 generalize Lib.splitB (bz [10]) 0 (Lib.countB text (bz [10])) text=L at hsp hm hlen
 have hne:=Zlx (bts text)
 have hl0:0<L.length:=by
  rcases Nat.eq_zero_or_pos L.length with e|e
  ·rw[List.length_eq_zero_iff.1 e]at hm;exact absurd hm.symm hne
  ·exact e
 have e1:wI ((L.length:Int)-1)=((L.length-1:Nat):Int):=by rw[Zau (by omega) (by omega)];omega
 have hlast:(Zbs (bts text)).getLast? =some (bts (L[L.length-1]'(by omega))):=by
  rw[←hm,List.getLast?_eq_getElem?,List.length_map,List.getElem?_map,List.getElem?_eq_getElem (by omega)]
  rfl
 have hL:Zcg (bts text)=if bts (L[L.length-1]'(by omega))=[]then (Zbs (bts text)).dropLast else Zbs (bts text):=by
  unfold Zcg
  rw[hlast]
  by_cases e:bts (L[L.length-1]'(by omega))=[]
  ·rw[if_pos e,if_pos (by rw[e])]
  ·rw[if_neg e,if_neg (fun k=>e (Option.some.inj k))]
 by_cases he:bts (L[L.length-1]'(by omega))=[]
 ·refine ⟨L.take (L.length-1),?_,?_⟩
  ·refine Zaa hsp ?_
   dsimp only
   rw[Zab,e1,Zao (by omega),Zaj (by omega),ZaA .s L (L.length-1) (by omega),eqW,Zao (by omega)]
   show (bif true then (bif true then (bif decide (bts (L[L.length-1]'(by omega))=[])then _ else _)else _)else _)=_
   rw[decide_eq_true he,Int.toNat_natCast]
   rfl
  ·rw[hL,if_pos he,←hm,List.map_take,List.dropLast_eq_take,List.length_map]
 ·refine ⟨L,?_,?_⟩
  ·refine Zaa hsp ?_
   dsimp only
   rw[Zab,e1,Zao (by omega),Zaj (by omega),ZaA .s L (L.length-1) (by omega),eqW]
   show (bif true then (bif true then (bif decide (bts (L[L.length-1]'(by omega))=[])then _ else _)else _)else _)=_
   rw[decide_eq_false he]
   rfl
  ·rw[hL,if_neg he,hm]
theorem Zjy (s:ByteArray): ∀(k i:Nat),i≤opNs.length→opNs.length-i<k→
  n136_0 k (opNs.map fun l=>(⟨⟨l⟩⟩:ByteArray),(s,(((30:Nat):Int),()))) () ((i:Int),())=
   some ((match Zjl s.data.toList (opNs.drop i) i with|none=>Sum.inl (((30:Nat):Int),())|some j=>Sum.inr ((j:Int),())),())
 |0,_,_,h=>absurd h (by omega)
 |k+1,i,hi,hk=>by
  have h30:opNs.length=30:=rfl
  unfold n136_0 w136_0
  dsimp only
  rw[Zab,List.length_map]
  by_cases h:i<opNs.length
  ·rw[Zaj (show (i:Int)< ((30:Nat):Int) by omega),Zaj (show (i:Int)< ((opNs.length:Nat):Int) by omega),Zao (by omega),Zpk i h,eqW,ZaW (by omega),ZaY h]
   simp only[cond_true]
   unfold Zjl
   by_cases e:opNs[i]=s.data.toList
   ·rw[decide_eq_true e.symm,cond_true,if_pos e]
   ·rw[decide_eq_false (fun k=>e k.symm),cond_false,if_neg e,Zjy s k (i+1) (by omega) (by omega)]
  ·obtain rfl:i=opNs.length:=by omega
   rw[ZaB (by omega),cond_false,List.drop_length]
   rfl
theorem Zjt (s:ByteArray):r90 (s,())=some ((opA s.data.toList,()),()):=by
 unfold r90 m90 opA
 have hn:r137 ()=some ((opNs.map fun l=>(⟨⟨l⟩⟩:ByteArray),()),()):=rfl
 refine Zaa hn ?_
 have hi:r136 (opNs.map fun l=>(⟨⟨l⟩⟩:ByteArray),(s,()))=some ((opA s.data.toList,()),()):=by
  unfold r136 m136 opA
  have h:=Zjy s fuel 0 (Nat.zero_le _) (by have:=Zat;have:opNs.length=30:=rfl;omega)
  rw[List.drop_zero]at h
  refine Zaa h ?_
  cases Zjl s.data.toList opNs 0 with
  |none=>rfl
  |some j=>rfl
 exact Zaa hi rfl
theorem ZtU (l:List UInt8):numA l= -1∨0≤numA l∧numA l<100000:=by
 rcases Decidable.em (numA l= -1)with e|e
 ·exact .inl e
 ·obtain ⟨n,h1,_,h3⟩:=Zg8 e
  right;omega
theorem Zhg (b:ByteArray) (hb:b.data.toList.length≤4000000) (most:Int) (hm:most<100000):
  r43 (b,(most,()))=some (((if 0≤numA b.data.toList∧numA b.data.toList≤most then (numA b.data.toList,true)else (0,false):Int×Bool).1,((if 0≤numA b.data.toList∧numA b.data.toList≤most then (numA b.data.toList,true)else (0,false):Int×Bool).2,())),()):=by
 have h:Nat.ble (ByteArray.size b) 281474976710656=true:=by rw[Nat.ble_eq,Lib.size_eq];omega
 rw[←ZuH _ _ hm]
 show (bif Nat.ble (ByteArray.size b) 281474976710656 then some (((numR b.data.toList most).1,((numR b.data.toList most).2,())),())else none)=_
 rw[h]
 rfl
theorem Zi9: ∀{l:List UInt8} {p:List UInt8×List UInt8},Zc2 l=some p→p.1.length≤l.length∧p.2.length≤l.length
 | [],_,h=>by cases h
 |c::l,p,h=>by
  unfold Zc2 at h
  split at h
  ·injection h with h;subst h;simp
  ·cases hc:Zc2 l with
   |none=>rw[hc]at h;cases h
   |some q=>
    rw[hc]at h
    injection h with h
    subst h
    obtain ⟨a,b⟩:=Zi9 hc
    simp;omega
theorem Zm9 (line:ByteArray) (hs:line.data.toList.length≤4000000) (hat: ∀b,Zc2 line.data.toList≠some (atW,b)):
  ∃x:List Int,r44 (line,())=some ((x,((Zb2 line.data.toList).isSome,())),())∧ ∀y,Zb2 line.data.toList=some y→y=(x,-1):=by
 have hat1:opA atW= -1:=rfl
 have cut:r89 (line,(bz [32],()))=some ((bz (Lib.cut line.data.toList [32]).1,(bz (Lib.cut line.data.toList [32]).2.1,((Lib.cut line.data.toList [32]).2.2,()))),()):=by
  show (bif Nat.blt (ByteArray.size line) 4294967281 then some ((bz (Lib.cut line.data.toList [32]).1,(bz (Lib.cut line.data.toList [32]).2.1,((Lib.cut line.data.toList [32]).2.2,()))),())else none)=_
  rw[show Nat.blt (ByteArray.size line) 4294967281=true by rw[Nat.blt_eq,Lib.size_eq];omega]
  rfl
 rw[Zvi]at cut
 unfold r44 m44
 rw[cut]
 generalize hL:line.data.toList=l at*
 have none': ∀x:List Int,Zb2 l=none→ ∃z:List Int,some (((x,(false,())),()):PTup o44×BTup i44)=some ((z,((Zb2 l).isSome,())),())∧ ∀y,Zb2 l=some y→y=(z,-1):=fun x h=>⟨x,by rw[h];rfl,fun y hy=>by rw[h]at hy;cases hy⟩
 have some': ∀x:List Int,Zb2 l=some (x,-1)→ ∃z:List Int,some (((x,(true,())),()):PTup o44×BTup i44)=some ((z,((Zb2 l).isSome,())),())∧ ∀y,Zb2 l=some y→y=(z,-1):=fun x h=>⟨x,by rw[h];rfl,fun y hy=>by rw[h]at hy;exact (Option.some.inj hy).symm⟩
 cases hc:Zc2 l with
 |none=>
  have hM:Zb2 l=if l=atW∨l=ZgR∨opA l<0 then none else if ZaP (opA l)=1 then some ([opA l],-1)else none:=by unfold Zb2;rw[hc]
  simp only[Option.bind_some]
  rw[Zjt,Zhg (bz []) (by simp) 255 (by decide),Zhg (bz []) (by simp) 65535 (by decide)]
  simp only[Option.bind_some]
  show∃x:List Int,(bif ((bz l).toList==(bz ZgR).toList)then some ((([0]:List Int),(false,())),())else bif ltI (opA l) 0 then some (([],(false,())),())else (r91 (opA l,())).bind fun v3=>bif eqI v3.1.1 1 then some (([opA l],(true,())),())else (r91 (opA l,())).bind fun v4=>bif eqI v4.1.1 2 then some (([opA l,0],(false,())),())else some (([opA l,Int.tmod 0 256,wI (Int.tdiv 0 256)],(false,())),()))=_∧_
  rw[eqW,ZdV]
  simp only[Option.bind_some]
  by_cases hb:l=ZgR
  ·rw[decide_eq_true hb,cond_true]
   exact none' _ (by rw[hM,if_pos (.inr (.inl hb))])
  rw[decide_eq_false hb,cond_false]
  by_cases ho:opA l<0
  ·rw[Zaj ho,cond_true]
   exact none' _ (by rw[hM,if_pos (.inr (.inr ho))])
  rw[ZaB ho,cond_false]
  have hn: ¬(l=atW∨l=ZgR∨opA l<0):=by
   rintro (h|h|h)
   ·rw[h,hat1]at ho;omega
   ·exact hb h
   ·exact ho h
  rw[if_neg hn]at hM
  by_cases h1:ZaP (opA l)=1
  ·rw[Zav h1,cond_true]
   exact some' _ (by rw[hM,if_pos h1])
  rw[if_neg h1]at hM
  rw[Zaq h1,cond_false]
  by_cases h2:ZaP (opA l)=2
  ·rw[Zav h2,cond_true]
   exact none' _ hM
  ·rw[Zaq h2,cond_false]
   exact none' _ hM
 |some p=>
  obtain ⟨w,b⟩:=p
  have hwa:w≠atW:=fun e=>hat b (by rw[hc,e])
  have hbl:=(Zi9 hc).2
  have hM:Zb2 l=if numA b<0 then none
   else if w=ZgR then (if numA b≤255 then some ([numA b],-1)else none)
   else if opA w<0 then none
   else if ZaP (opA w)=1 then none
   else if ZaP (opA w)=2 then (if numA b≤255 then some ([opA w,numA b],-1)else none)
   else if numA b≤65535 then some ([opA w,numA b%256,numA b/256],-1)else none:=by unfold Zb2;rw[hc];dsimp only;rw[if_neg hwa]
  simp only[Option.bind_some]
  rw[Zjt,Zhg (bz b) (by dsimp only at hbl⊢;omega) 255 (by decide),Zhg (bz b) (by dsimp only at hbl⊢;omega) 65535 (by decide)]
  simp only[Option.bind_some]
  rw[ZdV]
  simp only[Option.bind_some]
  rw[eqW]
  show∃x:List Int,(bif decide (w=ZgR)then _ else bif ltI (opA w) 0 then _ else bif eqI (ZaP (opA w)) 1 then _ else bif eqI (ZaP (opA w)) 2 then _ else _)=_∧_
  have hnb:=ZtU b
  by_cases hb:w=ZgR
  ·rw[if_pos hb]at hM
   rw[decide_eq_true hb,cond_true]
   by_cases h255:0≤numA b∧numA b≤255
   ·rw[if_neg (by omega),if_pos h255.2]at hM
    rw[if_pos h255]
    exact some' _ hM
   ·rw[if_neg h255]
    refine none' _ ?_
    rw[hM]
    by_cases hn:numA b<0
    ·rw[if_pos hn]
    ·rw[if_neg hn,if_neg (by omega)]
  rw[if_neg hb]at hM
  rw[decide_eq_false hb,cond_false]
  by_cases ho:opA w<0
  ·rw[Zaj ho,cond_true]
   refine none' _ ?_
   rw[hM,if_pos ho,ite_self]
  rw[if_neg ho]at hM
  rw[ZaB ho,cond_false]
  by_cases h1:ZaP (opA w)=1
  ·rw[Zav h1,cond_true]
   refine none' _ ?_
   rw[hM,if_pos h1,ite_self]
  rw[if_neg h1]at hM
  rw[Zaq h1,cond_false]
  by_cases h2:ZaP (opA w)=2
  ·rw[if_pos h2]at hM
   rw[Zav h2,cond_true]
   by_cases h255:0≤numA b∧numA b≤255
   ·rw[if_neg (by omega),if_pos h255.2]at hM
    rw[if_pos h255]
    exact some' _ hM
   ·rw[if_neg h255]
    refine none' _ ?_
    rw[hM]
    by_cases hn:numA b<0
    ·rw[if_pos hn]
    ·rw[if_neg hn,if_neg (by omega)]
  ·rw[if_neg h2]at hM
   rw[Zaq h2,cond_false]
   by_cases h6:0≤numA b∧numA b≤65535
   ·rw[if_neg (by omega),if_pos h6.2]at hM
    rw[if_pos h6]
    dsimp only
    rw[Int.tmod_eq_emod_of_nonneg h6.1,Zkh h6.1,Zau (by omega) (by omega)]
    exact some' _ hM
   ·rw[if_neg h6]
    refine none' _ ?_
    rw[hM]
    by_cases hn:numA b<0
    ·rw[if_pos hn]
    ·rw[if_neg hn,if_neg (by omega)]
theorem Zg1 (l:List Int) (hl3:l.length≤3): ∀(k i:Nat) (a:Int) (out:List Int),i≤l.length→l.length-i<k→out.length=256→0≤a→a≤255→
  n15_0 r44 r41 r43 r42 k (l,((l.length:Int),())) () (a,((i:Int),(out,())))=some (Sum.inl ((putM (l.drop i) a out).2,(((l.length:Nat):Int),((putM (l.drop i) a out).1,()))),())
 |0,_,_,_,_,h,_,_,_=>absurd h (by omega)
 |k+1,i,a,out,hi,hk,ho,h0,h1=>by
  unfold n15_0 w15_0
  dsimp only
  rw[Zab,Zab,ho]
  by_cases h:i<l.length
  ·rw[Zaj (show (i:Int)< (l.length:Int) by omega),Zao (show (0:Int)≤(i:Int) by omega),Zao h0,Zaj (show a< ((256:Nat):Int) by omega),ZaA .i l i h,ZaW (by omega),Zau (x:=a+1) (by omega) (by omega),Int.tmod_eq_emod_of_nonneg (show (0:Int)≤a+1 by omega)]
   simp only[cond_true]
   rw[Zg1 l hl3 k (i+1) ((a+1)%256) (out.set a.toNat l[i]) (by omega) (by omega) (by rw[List.length_set];exact ho) (by omega) (by omega),ZaY h,putM]
  ·obtain rfl:i=l.length:=by omega
   rw[ZaB (by omega),cond_false,List.drop_length]
   rfl
def Zt4 (R:List Int×Int) (r:Sum (PTup lv15_1) (PTup lr15_1)×BTup lb15_1):Prop:=(∃a' i':Int,r=(Sum.inl (a',(i',(R.1,()))),())∧R.2=0)∨r=(Sum.inr (R.1,(R.2,())),())
theorem Zdg (L:List ByteArray) (hL:L.length≤1000000) (hb: ∀x,x∈L→(bts x).length≤4000000): ∀(k i:Nat) (a:Int) (out:List Int),i≤L.length→L.length-i<k→out.length=256→Zb4 out→0≤a→a≤255→
  Ans (n15_1 r44 r41 r43 r42 L15_0 k (L,((L.length:Int),())) () (a,((i:Int),(out,())))) (Zt4 (asmM ((L.drop i).map bts) (i:Int) a out))
 |0,_,_,_,_,h,_,_,_,_=>absurd h (by omega)
 |k+1,i,a,out,hi,hk,ho,hbo,h0,h1=>by
  unfold n15_1 w15_1
  dsimp only
  rw[Zab]
  by_cases h:i<L.length
  ·have hbl:(bts L[i]).length≤4000000:=hb _ (List.getElem_mem h)
   rw[Zaj (show (i:Int)< (L.length:Int) by omega),Zao (show (0:Int)≤(i:Int) by omega),ZaA .s L i h,ZaW (by omega),eqW,ZaY h,List.map_cons]
   simp only[cond_true]
   show Ans (bif decide (bts L[i]=[])then _ else _) _
   unfold asmM
   by_cases e0:bts L[i]=[]
   ·rw[decide_eq_true e0,cond_true,if_pos e0]
    have:=Zdg L hL hb k (i+1) a out (by omega) (by omega) ho hbo h0 h1
    rw[Int.natCast_add,Int.natCast_one]at this⊢
    exact this
   rw[decide_eq_false e0,cond_false,if_neg e0]
   have hcp:r42 (L[i],(bz [97,116,32],()))=some ((bz (Lib.trimPrefix (bts L[i]) (atW++[32])),(Lib.hasPrefix (bts L[i]) (atW++[32]),())),()):=rfl
   refine (Ans.of hcp).bind ?_
   rintro _ rfl
   dsimp only
   rcases Zr3 atW (bts L[i]) (by decide)with ⟨hp,b,hcb,ht⟩| ⟨hp,hn⟩
   ·rw[hp,cond_true,ht]
    have hbb:=(Zi9 hcb).2
    refine (Ans.of (Zhg (bz b) (by dsimp only at hbb⊢;omega) 255 (by decide))).bind ?_
    rintro _ rfl
    have hM:Zb2 (bts L[i])=if numA b<0 then none else if numA b≤255 then some ([],numA b)else none:=by unfold Zb2;rw[hcb];dsimp only;rw[if_pos rfl]
    rw[hM]
    show Ans (bif !(if 0≤numA b∧numA b≤255 then (numA b,true)else (0,false):Int×Bool).2 then _ else _) _
    have hnb:=ZtU b
    by_cases h255:0≤numA b∧numA b≤255
    ·rw[if_pos h255,if_neg (by omega),if_pos h255.2]
     dsimp only
     rw[Bool.not_true,cond_false,if_pos h255.1]
     have:=Zdg L hL hb k (i+1) (numA b) out (by omega) (by omega) ho hbo h255.1 h255.2
     rw[Int.natCast_add,Int.natCast_one]at this⊢
     exact this
    ·rw[if_neg h255]
     dsimp only
     rw[Bool.not_false,cond_true]
     refine .ret (.inr ?_)
     by_cases hneg:numA b<0
     ·rw[if_pos hneg,Int.natCast_add,Int.natCast_one]
     ·rw[if_neg hneg,if_neg (by omega),Int.natCast_add,Int.natCast_one]
   ·rw[hp,cond_false]
    obtain ⟨x,ex,hx⟩:=Zm9 L[i] hbl hn
    refine (Ans.of ex).bind ?_
    rintro _ rfl
    dsimp only
    show Ans (bif !(Zb2 (bts L[i])).isSome then _ else _) _
    have hx: ∀y,Zb2 (bts L[i])=some y→y=(x,-1):=hx
    cases hM:Zb2 (bts L[i])with
    |none=>
     rw[Option.isSome_none,Bool.not_false,cond_true]
     refine .ret (.inr ?_)
     rw[Int.natCast_add,Int.natCast_one]
    |some p=>
     obtain rfl:=hx p hM
     rw[Option.isSome_some,Bool.not_true,cond_false]
     obtain ⟨b1,b2,_⟩:=Zof hM
     obtain ⟨q1,q2,q3,q4⟩:=Zps x a out b1 hbo h0 h1
     have hput:=Zg1 x b2 fuel 0 a out (Nat.zero_le _) (by have:=Zat;omega) ho h0 h1
     rw[List.drop_zero]at hput
     refine (Ans.of (show L15_0 (x,(lenI x,())) () (a,((0:Int),(out,())))=_ by rw[Zab];exact hput)).bind ?_
     rintro _ rfl
     have:=Zdg L hL hb k (i+1) (putM x a out).2 (putM x a out).1 (by omega) (by omega) (by rw[q2];exact ho) q1 q3 q4
     rw[Int.natCast_add,Int.natCast_one]at this⊢
     exact this
  ·obtain rfl:i=L.length:=by omega
   rw[ZaB (by omega),cond_false,List.drop_length]
   exact .ret (.inl ⟨a,_,rfl,rfl⟩)
theorem Zfq (s:ByteArray):r15 (s,())=some (((Zan s.data.toList).1,((Zan s.data.toList).2,())),()):=by
 have fin:Ans (r15 (s,())) fun r=>r=(((Zan s.data.toList).1,((Zan s.data.toList).2,())),()):=by
  unfold r15 m15 Zan
  dsimp only
  have hsz:(s.size:Int)=(s.data.toList.length:Int):=by rw[Lib.size_eq]
  rw[hsz]
  by_cases h:3000<s.data.toList.length
  ·rw[Zaj (by omega),cond_true,if_pos h]
   exact .ret rfl
  ·rw[ZaB (by omega),cond_false,if_neg h]
   obtain ⟨L,eL,hL⟩:=Zqq s (by rw[Lib.size_eq];omega)
   obtain ⟨c1,c2⟩:=Zqp _ (bts s) (Nat.le_refl _)
   have hb0:(bts s).length=s.data.toList.length:=rfl
   have hlen:L.length≤3000:=by
    have:=congrArg List.length hL
    rw[List.length_map]at this
    omega
   refine (Ans.of eL).bind ?_
   rintro _ rfl
   dsimp only
   rw[Zab]
   refine (Zdg L (by omega) (fun x hx=>by
    have:=c2 (bts x) (by rw[←hL];exact List.mem_map_of_mem hx)
    omega) fuel 0 0 (List.replicate 256 0) (Nat.zero_le _) (by have:=Zat;omega) (List.length_replicate ..) (Zi3 _) (by omega) (by omega)).bind ?_
   rw[List.drop_zero,hL]
   rintro _ (⟨a,i,rfl,h0⟩|rfl)
   ·refine .ret ?_
    have h0:(asmM (Zcg s.data.toList) 0 0 (List.replicate 256 0)).2=0:=h0
    rw[h0]
    rfl
   ·exact .ret rfl
 obtain ⟨r,e,rfl⟩:=fin
 exact e

end Go.Proofs.YtmlahgmhbdpkjaaGreatDoor.Plain
