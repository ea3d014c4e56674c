/- Plain laws of the printed functions: Str, Str2, Str3, CpuT. No condition beyond those that each lemma states. -/
import Derived.Test.YtcbdldlphpjmbaaGreatDoorPJ
set_option linter.unusedVariables false
set_option linter.unusedSimpArgs false
namespace Go.Proofs.YtcbdldlphpjmbaaGreatDoor.Plain
open Go Go.Tev
def Zrz (n:Nat):List UInt8:=if n=0 then []else Lib.decDigits n
theorem Znl {n:Nat} (h:n≠0):Zrz n=Zrz (n/10)++[UInt8.ofNat (48+n%10)]:=by
 unfold Zrz;rw[Zc h];by_cases h1:n<10
 ·rw[Lib.decDigits,dif_pos h1,Ze (show n/10=0 by omega),List.nil_append,Nat.mod_eq_of_lt h1]
 ·rw[Lib.decDigits,dif_neg h1,Zc (show n/10≠0 by omega)]
theorem ZsC {x:Int} (h1:0≤x) (h2:x≤255):wB x=x:=by
 show IntKind.u8.wrap x=x;rw[IntKind.wrap_u8];omega
theorem ZmS (n:Nat) (l:List UInt8):Ks [((48+n%10:Nat):Int)]++(⟨l.toArray⟩:ByteArray)=⟨(UInt8.ofNat (48+n%10)::l).toArray⟩:=by
 apply ByteArray.ext;rw[ByteArray.data_append];show (List.map (fun n:Int=>UInt8.ofNat n.toNat) [((48+n%10:Nat):Int)]).toArray++l.toArray=(UInt8.ofNat (48+n%10)::l).toArray;rw[List.map_singleton,Int.toNat_natCast,List.append_toArray,List.singleton_append]
theorem ZcN: ∀(j k:Nat) (n:Nat) (l:List UInt8),n<10^j→n≤9223372036854775807→j<k→l.length+j≤100→
  n43_0 k () () ((n:Int),((⟨l.toArray⟩:ByteArray),()))=some (Sum.inl ((0:Int),((⟨(Zrz n++l).toArray⟩:ByteArray),())),())
 |_,0,_,_,_,_,h,_=>absurd h (by omega)
 |j,k+1,n,l,hn,hm,hk,hs=>by
  show (bif ltI 0 (n:Int)then _ else some (Sum.inl ((n:Int),((⟨l.toArray⟩:ByteArray),())),()))=_
  by_cases h0:0<n
  ·rw[Zl (show (0:Int)< (n:Int) by omega),Zb];have hj:0<j:=by
    rcases Nat.eq_zero_or_pos j with e|e
    ·subst e;simp at hn;omega
    ·exact e
   obtain ⟨j,rfl⟩: ∃i,j=i+1:=⟨j-1,by omega⟩;rw[ZI (show (Ks [wB (wI (48+Int.tmod (n:Int) 10))]).size+(⟨l.toArray⟩:ByteArray).size≤4611686018427387904 by show 1+l.toArray.size≤_;rw[List.size_toArray];omega),Zb];have e:wI (Int.tdiv (n:Int) 10)=((n/10:Nat):Int):=by rw[Ua (by omega),Zr (by omega) (by omega)];omega
   rw[e];have e2:Ks [wB (wI (48+Int.tmod (n:Int) 10))]++(⟨l.toArray⟩:ByteArray)=⟨(UInt8.ofNat (48+n%10)::l).toArray⟩:=by
    have hw:wB (wI (48+Int.tmod (n:Int) 10))=((48+n%10:Nat):Int):=by
     obtain ⟨t0,t1⟩:=ZoL (a:=(n:Int)) (n:=10) (by omega) (by omega);have et:Int.tmod (n:Int) 10=((n%10:Nat):Int):=by rw[Int.tmod_eq_emod_of_nonneg (by omega)];omega
     rw[et,Zr (by omega) (by omega)];exact ZsC (by omega) (by omega)
    rw[hw];exact ZmS n l
   rw[e2];show n43_0 k () () (((n/10:Nat):Int),((⟨(UInt8.ofNat (48+n%10)::l).toArray⟩:ByteArray),()))=_;rw[ZcN j k (n/10) (UInt8.ofNat (48+n%10)::l) (by rw[Nat.pow_succ]at hn;omega) (by omega) (by omega) (by rw[List.length_cons];omega),Znl (n:=n) (by omega),List.append_assoc,List.singleton_append]
  ·obtain rfl:n=0:=by omega
   rw[Zx (by decide),Zd];rfl
theorem ZaN (n:Nat) (hn:n≤9223372036854775807):r43 ((n:Int),())=some (((⟨(Lib.decDigits n).toArray⟩:ByteArray),()),()):=by
 unfold r43 m43;dsimp only;by_cases h:n=0
 ·subst h;rw[show eqI ((0:Nat):Int) 0=true from rfl,Zb,Lib.decDigits,dif_pos (by decide)];rfl
 ·rw[Zi (show¬(n:Int)=0 by omega),Zd];refine Za (ZcN 20 fuel n [] (by omega) hn (by have:=ZZ;omega) (by decide)) ?_;rw[List.append_nil];unfold Zrz;rw[Zc h];rfl
def KN (l:List UInt8):Nat:=l.foldl (fun x c=>10*x+(c.toNat-48)) 0
theorem ZdX {d:Nat} (h:d<10):(UInt8.ofNat (48+d)).toNat=48+d:=by
 rw[UInt8.toNat_ofNat'];omega
theorem Uv (n:Nat):Lib.decDigits n=if n<10 then [UInt8.ofNat (48+n)]else Lib.decDigits (n/10)++[UInt8.ofNat (48+n%10)]:=by
 rw[Lib.decDigits];split<;>rfl
theorem ZoO (n:Nat):KN (Lib.decDigits n)=n:=by
 induction n using Nat.strongRecOn with
 |_ n ih=>
  rw[Uv];split
  ·rename_i h;show 10*0+((UInt8.ofNat (48+n)).toNat-48)=n;rw[ZdX h];omega
  ·rename_i h;have:=ih (n/10) (by omega);unfold KN at this⊢;rw[List.foldl_append,this];show 10*(n/10)+((UInt8.ofNat (48+n%10)).toNat-48)=n;rw[ZdX (by omega)];omega
theorem Zfw (n:Nat): ∀c,c∈Lib.decDigits n→48≤c.toNat∧c.toNat≤57:=by
 induction n using Nat.strongRecOn with
 |_ n ih=>
  intro c hc;rw[Uv]at hc;split at hc
  ·rename_i h;rw[List.mem_singleton.1 hc,ZdX h];omega
  ·rcases List.mem_append.1 hc with h1|h1
   ·exact ih (n/10) (by omega) c h1
   ·rw[List.mem_singleton.1 h1,ZdX (by omega)];omega
theorem Zh7: ∀(k n:Nat),n<10^(k+1)→(Lib.decDigits n).length≤k+1∧1≤(Lib.decDigits n).length
 |0,n,h=>by
  rw[Uv,Ze (by simpa using h)];exact ⟨Nat.le_refl _,Nat.le_refl _⟩
 |k+1,n,h=>by
  rw[Uv];split
  ·exact ⟨by show 1≤_;omega,Nat.le_refl _⟩
  ·obtain ⟨a,b⟩:=Zh7 k (n/10) (by rw[Nat.pow_succ]at h;omega);rw[List.length_append,List.length_singleton];exact ⟨by omega,by omega⟩
def YS (c:UInt8):Bool:=decide (48≤c.toNat)&&decide (c.toNat≤57)
def Yz (x:Nat) (c:UInt8):Nat:=10*x+(c.toNat-48)
def Zu (l:List UInt8):Int:=if l=[]∨5<l.length then-1 else if l.all YS&&decide (Lib.decDigits (KN l)=l)then (KN l:Int)else-1
theorem Wy (s:ByteArray) (i:Nat) (h:i<s.data.toList.length):bt s (i:Int)=((s.data.toList[i]).toNat:Int):=by
 unfold bt;rw[Int.toNat_natCast,List.getD_eq_getElem?_getD,List.getElem?_eq_getElem h];rfl
theorem Zf4 (s:ByteArray) (hs:s.data.toList.length≤5): ∀(k i x:Nat),i≤s.data.toList.length→s.data.toList.length-i<k→x<10^i→
  n103_0 r43 k (s,()) () ((x:Int),((i:Int),()))=
   some ((if (s.data.toList.drop i).all YS then Sum.inl ((((s.data.toList.drop i).foldl Yz x:Nat):Int),((s.data.toList.length:Int),()))else Sum.inr ((-1:Int),())),())
 |0,_,_,_,h,_=>absurd h (by omega)
 |k+1,i,x,hi,hk,hx=>by
  have hsz:(s.size:Int)=(s.data.toList.length:Int):=by rw[Lib.size_eq]
  have hp:10^i≤10^5:=Nat.pow_le_pow_right (by decide) (by omega);show (bif ltI (i:Int) (s.size:Int)then (bif leI 0 (i:Int)then (bif ltI (i:Int) (s.size:Int)then (bif ltI (bt s (i:Int)) 48 then some (Sum.inr ((-1:Int),()),())else bif leI 0 (i:Int)then (bif ltI (i:Int) (s.size:Int)then (bif ltI 57 (bt s (i:Int))then some (Sum.inr ((-1:Int),()),())else bif leI 0 (i:Int)then (bif ltI (i:Int) (s.size:Int)then
   n103_0 r43 k (s,()) () (wI (wI (wI (10*(x:Int))+wI (bt s (i:Int)))-48),(wI ((i:Int)+1),()))else none)else none)else none)else none)else none)else none)else some (Sum.inl ((x:Int),((i:Int),())),()))=_
  rw[hsz];by_cases hc:i<s.data.toList.length
  ·have h8:(s.data.toList[i]).toNat<256:=(s.data.toList[i]).toNat_lt;rw[Zl (show (i:Int)< (s.data.toList.length:Int) by omega),Zp (show (0:Int)≤(i:Int) by omega),Wy s i hc];simp only[Zb];have ed:s.data.toList.drop i=s.data.toList[i]::s.data.toList.drop (i+1):=J0 hc;rw[ed];generalize s.data.toList[i]=c at h8⊢;by_cases h1:c.toNat<48
   ·rw[Zl (by omega),Zb,List.all_cons,show YS c=false by unfold YS;rw[Zw (by omega),Bool.false_and]];simp
   ·by_cases h2:57<c.toNat
    ·rw[Zx (by omega),Zd,Zl (by omega),Zb,List.all_cons,show YS c=false by unfold YS;rw[Zw (show¬c.toNat≤57 by omega),Bool.and_false]];simp
    ·have hd:YS c=true:=by unfold YS;rw[ZB (by omega),ZB (by omega)];rfl
     have ev:wI (wI (wI (10*(x:Int))+wI (c.toNat:Int))-48)=((Yz x c:Nat):Int):=by
      unfold Yz;rw[Zr (x:=10*(x:Int)) (by omega) (by omega),Zr (x:=(c.toNat:Int)) (by omega) (by omega),Zr (x:=10*(x:Int)+(c.toNat:Int)) (by omega) (by omega),Zr (by omega) (by omega)];omega
     rw[Zx (by omega),Zd,Zx (by omega),Zd,ev,Ql (by omega),Zf4 s hs k (i+1) (Yz x c) (by omega) (by omega) (by unfold Yz;rw[Nat.pow_succ];omega),List.all_cons,hd,Bool.true_and,List.foldl_cons]
  ·obtain rfl:i=s.data.toList.length:=by omega
   rw[Zx (by omega),Zd,List.drop_length];rfl
theorem Zoz (a:ByteArray) (l:List UInt8) (b:ByteArray) (h:b.data.toList=l):(a.toList==b.toList)=decide (a.data.toList=l):=by
 rw[ByteArray.toList_eq,ByteArray.toList_eq,h];by_cases e:a.data.toList=l
 ·rw[ZB e,e,beq_self_eq_true]
 ·rw[Zw e];exact beq_eq_false_iff_ne.2 e
theorem Zpl (s:ByteArray):r103 (s,())=some ((Zu s.data.toList,()),()):=by
 unfold r103 m103 Zu;dsimp only;have hsz:(s.size:Int)=(s.data.toList.length:Int):=by rw[Lib.size_eq]
 have e0:(s.toList==(bz []).toList)=decide (s.data.toList=[]):=Zoz s [] (bz []) rfl;rw[e0,hsz];by_cases h0:s.data.toList=[]
 ·rw[ZB h0,Zb,Ze (.inl h0)]
 rw[Zw h0,Zd];by_cases h5:5<s.data.toList.length
 ·rw[Zl (show (5:Int)< (s.data.toList.length:Int) by omega),Zb,Ze (.inr h5)]
 rw[Zx (show¬(5:Int)< (s.data.toList.length:Int) by omega),Zd,Zc (by rintro (h|h);exact h0 h;exact h5 h)];have hl:=Zf4 s (by omega) fuel 0 0 (Nat.zero_le _) (by have:=ZZ;omega) (by decide);rw[List.drop_zero]at hl;refine Za hl ?_;cases hd:s.data.toList.all YS with
 |false=>rw[Zc (by simp),Bool.false_and,Zc (by simp)];rfl
 |true=>
  rw[Ze rfl,Bool.true_and];show ((r43 (((s.data.toList.foldl Yz 0:Nat):Int),())).bind fun r2=>bif (!(r2.1.1.toList==s.toList))then some ((-(1:Int),()),())else some (((((s.data.toList.foldl Yz 0:Nat):Int)),()),()))=_
  have hv:s.data.toList.foldl Yz 0=KN s.data.toList:=rfl;have hb: ∀(l:List UInt8) (x:Nat),l.foldl Yz x≤(x+1)*300^l.length:=by
   intro l;induction l with
   |nil=>intro x;simp
   |cons c l ih=>
    intro x;have h8:c.toNat<256:=c.toNat_lt;rw[List.foldl_cons,List.length_cons,Nat.pow_succ];refine Nat.le_trans (ih _) ?_;have:Yz x c+1≤(x+1)*300:=by unfold Yz;omega
    calc (Yz x c+1)*300^l.length≤((x+1)*300)*300^l.length:=Nat.mul_le_mul_right _ this
     _=(x+1)*(300^l.length*300):=by rw[Nat.mul_assoc,Nat.mul_comm 300]
  have hbound:KN s.data.toList≤9223372036854775807:=by
   have h1:=hb s.data.toList 0;rw[hv]at h1;have h2:300^s.data.toList.length≤300^5:=Nat.pow_le_pow_right (by decide) (by omega);omega
  rw[hv];refine Za (ZaN _ hbound) ?_;have e1:((⟨(Lib.decDigits (KN s.data.toList)).toArray⟩:ByteArray).toList==s.toList)=decide (Lib.decDigits (KN s.data.toList)=s.data.toList):=Zoz _ _ s rfl;show (bif (!((⟨(Lib.decDigits (KN s.data.toList)).toArray⟩:ByteArray).toList==s.toList))then some ((-(1:Int),()),())else some ((((KN s.data.toList:Nat):Int),()),()))=_
  rw[e1];by_cases hd2:Lib.decDigits (KN s.data.toList)=s.data.toList
  ·rw[ZB hd2,Ze rfl];rfl
  ·rw[Zw hd2,Zc (by simp)];rfl
theorem Zpv {n:Nat} (h:n<100000):Zu (Lib.decDigits n)=n:=by
 obtain ⟨a,b⟩:=Zh7 4 n h;unfold Zu;rw[Zc (by rintro (e|e);rw[e]at b;exact absurd b (by decide);omega)];have hd:(Lib.decDigits n).all YS=true:=List.all_eq_true.2 fun c hc=>by
  obtain ⟨h1,h2⟩:=Zfw n c hc;unfold YS;rw[ZB h1,ZB h2];rfl
 rw[hd,ZoO,ZB rfl];rfl
theorem Zqg: ∀(l:List UInt8) (x:Nat),l.all YS=true→l.foldl Yz x< (x+1)*10^l.length
 | [],x,_=>by simp
 |c::l,x,h=>by
  rw[List.all_cons,Bool.and_eq_true]at h;obtain ⟨h1,h2⟩:=h;unfold YS at h1;rw[Bool.and_eq_true,decide_eq_true_iff,decide_eq_true_iff]at h1;rw[List.foldl_cons,List.length_cons,Nat.pow_succ];refine Nat.lt_of_lt_of_le (Zqg l _ h2) ?_;have:Yz x c+1≤(x+1)*10:=by unfold Yz;omega
  calc (Yz x c+1)*10^l.length≤((x+1)*10)*10^l.length:=Nat.mul_le_mul_right _ this
   _=(x+1)*(10^l.length*10):=by rw[Nat.mul_assoc,Nat.mul_comm 10]
theorem ZdA {l:List UInt8} (h:Zu l≠ -1): ∃n:Nat,n<100000∧l=Lib.decDigits n∧Zu l=n:=by
 unfold Zu at h⊢;split at h
 ·exact absurd rfl h
 ·rename_i h5;split at h
  ·rename_i hd;rw[Zc h5,Ze hd];rw[Bool.and_eq_true,decide_eq_true_iff]at hd;have h1:=Zqg l 0 hd.1;have h2:10^l.length≤10^5:=Nat.pow_le_pow_right (by decide) (by rcases Nat.lt_or_ge 5 l.length with e|e;exact absurd (.inr e) h5;exact e)
   exact ⟨KN l,by show l.foldl Yz 0<100000;omega,hd.2.symm,rfl⟩
  ·exact absurd rfl h
theorem ZnP {l:List UInt8}:Zu l= -1↔ ∀n:Nat,n<100000→l≠Lib.decDigits n:=by
 constructor
 ·rintro h n hn rfl;rw[Zpv hn]at h;omega
 ·intro h;rcases Decidable.em (Zu l= -1)with e|e
  ·exact e
  ·obtain ⟨n,a,b,_⟩:=ZdA e;exact absurd b (h n a)
def Jl:List UInt8→Option (List UInt8×List UInt8)
 | []=>none
 |c::r=>if c=32 then some ([],r)else (Jl r).map fun p=>(c::p.1,p.2)
def Zps (s:ByteArray):ByteArray×Int×Bool×Unit:=match Jl s.data.toList with
 |none=>(s,-1,true,())
 |some p=>(⟨p.1.toArray⟩,Zu p.2,leI 0 (Zu p.2),())
theorem WF (s:ByteArray) (i j:Nat):(s.extract i j).data.toList=(s.data.toList.take j).drop i:=by
 rw[ByteArray.data_extract,Array.toList_extract,List.extract_eq_take_drop,List.drop_take]
theorem ZeM (s:ByteArray) (hs:s.data.toList.length≤4000000): ∀(k i:Nat),i≤s.data.toList.length→s.data.toList.length-i<k→
  n40_0 r103 k (s,()) () ((i:Int),())=some (match Jl (s.data.toList.drop i)with
   |none=>(Sum.inl ((s.data.toList.length:Int),()),())
   |some p=>(Sum.inr ((⟨(s.data.toList.take i++p.1).toArray⟩:ByteArray),(Zu p.2,(leI 0 (Zu p.2),()))),()))
 |0,_,_,h=>absurd h (by omega)
 |k+1,i,hi,hk=>by
  have hsz:(s.size:Int)=(s.data.toList.length:Int):=by rw[Lib.size_eq]
  have hsn:s.size=s.data.toList.length:=Lib.size_eq s;show (bif ltI (i:Int) (s.size:Int)then (bif leI 0 (i:Int)then (bif ltI (i:Int) (s.size:Int)then (bif eqI (bt s (i:Int)) 32 then (bif leI 0 (wI ((i:Int)+1))then (bif leI (wI ((i:Int)+1)) (s.size:Int)then
   ((r103 (ByteArray.extract s (Int.toNat (wI ((i:Int)+1))) s.size,())).bind fun r0=>bif leI 0 (i:Int)then (bif leI (i:Int) (s.size:Int)then some (Sum.inr (ByteArray.extract s 0 (Int.toNat (i:Int)),(r0.1.1,(leI 0 r0.1.1,()))),())else none)else none)else none)else none)
   else n40_0 r103 k (s,()) () (wI ((i:Int)+1),()))else none)else none)else some (Sum.inl ((i:Int),()),()))=_
  rw[hsz];by_cases hc:i<s.data.toList.length
  ·rw[Zl (show (i:Int)< (s.data.toList.length:Int) by omega),Zp (show (0:Int)≤(i:Int) by omega),Wy s i hc,Ql (by omega),Zp (show (0:Int)≤((i+1:Nat):Int) by omega),Zp (show ((i+1:Nat):Int)≤(s.data.toList.length:Int) by omega),Zp (show (i:Int)≤(s.data.toList.length:Int) by omega)];simp only[Zb];have ed:s.data.toList.drop i=s.data.toList[i]::s.data.toList.drop (i+1):=J0 hc;rw[ed];by_cases h32:s.data.toList[i]=32
   ·rw[h32,show eqI (((32:UInt8).toNat:Nat):Int) 32=true from rfl,Zb,Zpl];simp only[Jl,if_true,Zo];have e1:(s.extract (Int.toNat ((i+1:Nat):Int)) s.size).data.toList=s.data.toList.drop (i+1):=by
     rw[WF,Int.toNat_natCast,hsn,List.take_length]
    have e2:s.extract 0 (Int.toNat (i:Int))=⟨(s.data.toList.take i++[]).toArray⟩:=by
     apply Go.WideShapes.bytes_inj;rw[WF,Int.toNat_natCast,List.append_nil,List.drop_zero]
    rw[e1,e2]
   ·have hne:eqI ((s.data.toList[i]).toNat:Int) 32=false:=Zi fun e=>h32 (UInt8.toNat_inj.1 (by show _=32;omega));rw[hne,Zd,ZeM s hs k (i+1) (by omega) (by omega)];simp only[Jl,Zc h32];cases Jl (s.data.toList.drop (i+1))with
    |none=>rfl
    |some p=>
     simp only[Option.map_some];have e3:s.data.toList.take (i+1)++p.1=s.data.toList.take i++s.data.toList[i]::p.1:=by
      rw[List.take_succ_eq_append_getElem hc,List.append_assoc,List.singleton_append]
     rw[e3]
  ·obtain rfl:i=s.data.toList.length:=by omega
   rw[Zx (by omega),Zd,List.drop_length];rfl
theorem Zji (s:ByteArray) (hs:s.data.toList.length≤4000000):r40 (s,())=some ((Zps s,()):(ByteArray×Int×Bool×Unit)×Unit):=by
 unfold r40 m40 Zps;have h:=ZeM s hs fuel 0 (Nat.zero_le _) (by have:=ZZ;omega);rw[List.drop_zero,List.take_zero]at h;refine Za h ?_;cases Jl s.data.toList with
 |none=>rfl
 |some p=>rfl
theorem pre1 (b:UInt8) (l:List UInt8):([32]:List UInt8).isPrefixOf (b::l)=decide (b=32):=by
 by_cases h:b=32
 ·subst h;simp[List.isPrefixOf]
 ·rw[Zw h];have:((32:UInt8)==b)=false:=beq_eq_false_iff_ne.2 (Ne.symm h);simp[List.isPrefixOf,this]
theorem Zim: ∀l:List UInt8,(Jl l=none∧Lib.index l [32]= -1)∨ ∃a b,Jl l=some (a,b)∧l=a++32::b∧Lib.index l [32]=a.length
 | []=> .inl ⟨rfl,rfl⟩
 |c::l=>by
  by_cases h:c=32
  ·subst h;refine .inr ⟨[],l,by simp[Jl],rfl,?_⟩;unfold Lib.index;rw[pre1,ZB rfl,Ze rfl];rfl
  ·have e:Lib.index (c::l) [32]=if Lib.index l [32]== -1 then-1 else Lib.index l [32]+1:=by
    conv=>lhs;unfold Lib.index
    rw[pre1,Zw h,Zc (by simp)]
   rcases Zim l with ⟨h1,h2⟩| ⟨a,b,h1,h2,h3⟩
   ·refine .inl ⟨by simp[Jl,h,h1],?_⟩;rw[e,h2];decide
   ·refine .inr ⟨c::a,b,by simp[Jl,h,h1],by rw[h2];rfl,?_⟩;rw[e,h3,Zc (show¬(((a.length:Nat):Int)== -1)=true by rw[beq_iff_eq];omega),List.length_cons];omega
theorem Zrx (l:List UInt8):Lib.cut l [32]=match Jl l with|none=>(l,[],false)|some p=>(p.1,p.2,true):=by
 unfold Lib.cut;rcases Zim l with ⟨h1,h2⟩| ⟨a,b,h1,h2,h3⟩
 ·rw[h1,h2,Zc (by decide)]
 ·rw[h1,h3,Ze (by omega)];simp only[Int.toNat_natCast];rw[h2,List.take_left,show a.length+([32]:List UInt8).length=(a++[32]).length by simp,show a++32::b=(a++[32])++b by simp,List.drop_left]
theorem ZiX: ∀(w b:List UInt8),¬(32:UInt8)∈w→Jl (w++32::b)=some (w,b)
 | [],b,_=>by simp[Jl]
 |c::w,b,h=>by
  have hc: ¬c=32:=fun e=>h (by rw[e];exact List.mem_cons_self);have hw: ¬(32:UInt8)∈w:=fun e=>h (List.mem_cons_of_mem _ e);simp[Jl,hc,ZiX w b hw]
theorem ZjC (w l:List UInt8) (hw: ¬(32:UInt8)∈w):(Lib.hasPrefix l (w++[32])=true∧ ∃b,Jl l=some (w,b)∧Lib.trimPrefix l (w++[32])=b)∨
  (Lib.hasPrefix l (w++[32])=false∧ ∀b,Jl l≠some (w,b)):=by
 cases h:Lib.hasPrefix l (w++[32])
 ·refine .inr ⟨rfl,fun b hb=> ?_⟩;rcases Zim l with ⟨h1,_⟩| ⟨a,b',h1,h2,_⟩
  ·rw[h1]at hb;cases hb
  ·rw[h1]at hb;cases hb;have:Lib.hasPrefix l (w++[32])=true:=by
    unfold Lib.hasPrefix;rw[List.isPrefixOf_iff_prefix];exact ⟨b,by rw[h2];simp⟩
   rw[this]at h;cases h
 ·refine .inl ⟨rfl,?_⟩;have h':=h;unfold Lib.hasPrefix at h;rw[List.isPrefixOf_iff_prefix]at h;obtain ⟨b,rfl⟩:=h;refine ⟨b,?_,?_⟩
  ·have e:w++[32]++b=w++32::b:=by simp
   rw[e];exact ZiX w b hw
  ·unfold Lib.trimPrefix;rw[h',Ze rfl,List.drop_left]
def Zlc (c:UInt8):List (List UInt8)→List (List UInt8)
 | []=>[[c]]
 |h::t=>(c::h)::t
def J4:List UInt8→List (List UInt8)
 | []=>[[]]
 |c::r=>if c=10 then []::J4 r else Zlc c (J4 r)
theorem pre10 (b:UInt8) (l:List UInt8):([10]:List UInt8).isPrefixOf (b::l)=decide (b=10):=by
 by_cases h:b=10
 ·subst h;simp[List.isPrefixOf]
 ·rw[Zw h];have:((10:UInt8)==b)=false:=beq_eq_false_iff_ne.2 (Ne.symm h);simp[List.isPrefixOf,this]
theorem Zil: ∀l:List UInt8,(¬(10:UInt8)∈l∧Lib.index l [10]= -1)∨ ∃a b,¬(10:UInt8)∈a∧l=a++10::b∧Lib.index l [10]=a.length
 | []=> .inl ⟨by simp,rfl⟩
 |c::l=>by
  by_cases h:c=10
  ·subst h;refine .inr ⟨[],l,by simp,rfl,?_⟩;unfold Lib.index;rw[pre10,ZB rfl,Ze rfl];rfl
  ·have e:Lib.index (c::l) [10]=if Lib.index l [10]== -1 then-1 else Lib.index l [10]+1:=by
    conv=>lhs;unfold Lib.index
    rw[pre10,Zw h,Zc (by simp)]
   rcases Zil l with ⟨h1,h2⟩| ⟨a,b,h1,h2,h3⟩
   ·refine .inl ⟨by simp[h1,Ne.symm h],?_⟩;rw[e,h2];decide
   ·refine .inr ⟨c::a,b,by simp[h1,Ne.symm h],by rw[h2];rfl,?_⟩;rw[e,h3,Zc (show¬(((a.length:Nat):Int)== -1)=true by rw[beq_iff_eq];omega),List.length_cons];omega
theorem Zcl: ∀a:List UInt8,¬(10:UInt8)∈a→J4 a=[a]
 | [],_=>rfl
 |c::a,h=>by
  have hc: ¬c=10:=fun e=>h (by rw[e];exact List.mem_cons_self);rw[J4,Zc hc,Zcl a fun e=>h (List.mem_cons_of_mem _ e)];rfl
theorem Zc7: ∀a b:List UInt8,¬(10:UInt8)∈a→J4 (a++10::b)=a::J4 b
 | [],b,_=>by rw[List.nil_append,J4,Ze rfl]
 |c::a,b,h=>by
  have hc: ¬c=10:=fun e=>h (by rw[e];exact List.mem_cons_self);rw[List.cons_append,J4,Zc hc,Zc7 a b fun e=>h (List.mem_cons_of_mem _ e)];rfl
theorem ZhQ: ∀a:List UInt8,J4 a≠ []
 | []=>by simp[J4]
 |c::a=>by
  unfold J4;split
  ·simp
  ·cases J4 a<;>simp[Zlc]
theorem Zou: ∀(n:Nat) (l:List UInt8),l.length≤n→Lib.splitK [10] 0 (Lib.count l [10]) l=J4 l:=by
 intro n;induction n with
 |zero=>
  intro l h;obtain rfl:l=[]:=List.length_eq_zero_iff.1 (by omega);rfl
 |succ n ih=>
  intro l h;rcases Zil l with ⟨h1,h2⟩| ⟨a,b,h1,h2,h3⟩
  ·rw[Lib.count_miss h2,Zcl l h1];rfl
  ·have ed:l.drop (a.length+1)=b:=by rw[h2,show a.length+1=(a++[10]).length by simp,show a++10::b=(a++[10])++b by simp,List.drop_left]
   have et:l.take a.length=a:=by rw[h2,List.take_left]
   rw[Lib.count_hit (by simp) h3,Nat.add_comm]
   conv=>lhs;unfold Lib.splitK
   rw[Zc (show¬(Lib.index l [10]== -1)=true by rw[h3,beq_iff_eq];omega),h3,Int.toNat_natCast,Nat.add_zero,et];show a::Lib.splitK [10] 0 (Lib.count (l.drop (a.length+1)) [10]) (l.drop (a.length+1))=_;rw[ed,ih b (by rw[h2]at h;simp at h;omega),h2,Zc7 a b h1]
theorem ZpM (s sep:ByteArray) (h:sep.data.toList=[10]):(Lib.splitB sep 0 (Lib.countB s sep) s).map (fun b:ByteArray=>b.data.toList)=J4 s.data.toList:=by
 rw[Lib.splitB_data];show Lib.splitK _ 0 (Lib.count _ _) _=_;rw[h];exact Zou _ _ (Nat.le_refl _)
def QG (l:List UInt8):List (List UInt8):=if (J4 l).getLast? =some []then (J4 l).dropLast else J4 l
theorem Zc1 {a:List UInt8} (h: ¬(10:UInt8)∈a):QG a=if a=[]then []else [a]:=by
 unfold QG;rw[Zcl a h];by_cases e:a=[]
 ·subst e;rfl
 ·simp[e]
theorem Zej {a:List UInt8} (b:List UInt8) (h: ¬(10:UInt8)∈a):QG (a++10::b)=a::QG b:=by
 unfold QG;rw[Zc7 a b h];have hn:=ZhQ b;generalize J4 b=t at hn⊢;cases t with
 |nil=>exact absurd rfl hn
 |cons x t=>
  rw[List.getLast?_cons_cons];split
  ·rw[List.dropLast_cons_of_ne_nil (by simp)]
  ·rfl
theorem Zek: ∀(n:Nat) (l:List UInt8),l.length≤n→(QG l).length≤l.length∧ ∀x,x∈QG l→x.length≤l.length:=by
 intro n;induction n with
 |zero=>
  intro l h;obtain rfl:l=[]:=List.length_eq_zero_iff.1 (by omega);exact ⟨Nat.le_refl _,fun x hx=>by cases hx⟩
 |succ n ih=>
  intro l h;rcases Zil l with ⟨h1,_⟩| ⟨a,b,h1,h2,_⟩
  ·rw[Zc1 h1];split
   ·exact ⟨Nat.zero_le _,fun x hx=>by cases hx⟩
   ·rename_i e;have:0<l.length:=List.length_pos_iff.2 e;exact ⟨by simp;omega,fun x hx=>by rw[List.mem_singleton.1 hx];exact Nat.le_refl _⟩
  ·rw[h2,Zej b h1];obtain ⟨i1,i2⟩:=ih b (by rw[h2]at h;simp at h;omega);refine ⟨by simp;omega,fun x hx=> ?_⟩;rcases List.mem_cons.1 hx with rfl|hx
   ·simp
   ·have:=i2 x hx;simp;omega
theorem Zfv: ∀(l:List UInt8) (acc:Nat),l.all YS=true→Lib.decFrom acc l=some (l.foldl Yz acc)
 | [],_,_=>rfl
 |c::l,acc,h=>by
  rw[List.all_cons,Bool.and_eq_true]at h;obtain ⟨h1,h2⟩:=h;have hd:48≤c.toNat∧c.toNat≤57:=by
   unfold YS at h1;rw[Bool.and_eq_true,decide_eq_true_iff,decide_eq_true_iff]at h1;exact h1
  rw[Lib.decFrom,Lib.digitVal,Ze hd];show Lib.decFrom (acc*10+(c.toNat-48)) l=_;rw[Zfv l _ h2,List.foldl_cons,Yz,Nat.mul_comm]
theorem Zqx (n:Nat):(Lib.decDigits n).all YS=true:=List.all_eq_true.2 fun c hc=>by
 obtain ⟨h1,h2⟩:=Zfw n c hc;unfold YS;rw[ZB h1,ZB h2];rfl
theorem ZoZ {n:Nat} (h:n<100000):Lib.atoiAll (Lib.decDigits n)= .ok (n:Int):=by
 obtain ⟨a,b⟩:=Zh7 4 n h;rw[Lib.atoiAll_short _ (by omega)];have hv:Lib.decFrom 0 (Lib.decDigits n)=some n:=by
  rw[Zfv _ _ (Zqx n)];exact congrArg some (ZoO n)
 have hd:=Zfw n;generalize Lib.decDigits n=l at a b hv hd⊢;cases l with
 |nil=>simp at b
 |cons c l=>
  obtain ⟨h1,h2⟩:=hd c List.mem_cons_self;have e1:(c==45)=false:=by rw[beq_eq_false_iff_ne];rintro rfl;simp at h1
  have e2:(c==43)=false:=by rw[beq_eq_false_iff_ne];rintro rfl;simp at h1
  rw[Lib.atoi,e1,e2,Zc (by simp),Zc (by simp),Lib.decNat,List.isEmpty_cons,Zc (by simp),hv];rfl
theorem Zin (n:Nat):Lib.itoa (n:Int)=Lib.decDigits n:=by
 unfold Lib.itoa;rw[Zc (by omega),Int.toNat_natCast]
theorem YR (a b:List UInt8):bz a++bz b=bz (a++b):=by
 apply ByteArray.ext;rw[ByteArray.data_append];exact List.append_toArray ..
theorem Ju (a:List UInt8):ByteArray.size (bz a)=a.length:=by
 show Array.size ⟨a⟩=_;rfl
theorem ZaC (n:Nat) (hn:n≤9223372036854775807):r31 ((n:Int),())=some ((bz (Lib.decDigits n),()),()):=by
 unfold r31 m31;have h:r75 ((n:Int),())=some ((bz (Lib.decDigits n),()),()):=by
  show (bif decide (-9223372036854775808≤(n:Int))&&decide ((n:Int)≤9223372036854775807)then some ((bz (Lib.itoa (n:Int)),()),())else none)=_
  rw[ZB (by omega),ZB (by omega),Zin];rfl
 exact Za h rfl
def Xn (n:Int):List UInt8:=Lib.decDigits n.toNat
theorem Kz {n:Int} (h1:n≤65535):(Xn n).length≤5:=(Zh7 4 n.toNat (by omega)).1
def Zsf (a b c d:Bool):List UInt8:=match a,b,c,d with
 |false,false,false,false=>[45]
 |a,b,c,d=>(if a then [67]else [])++(if b then [90]else [])++(if c then [73]else [])++(if d then [78]else [])
def K1 (c:Tup Xm):List UInt8:=if Yq c then [65]++Xn c.1++[32,88]++Xn c.2.1++[32,83]++Xn c.2.2.1++[32,80,99]++Xn c.2.2.2.1++[32]++Zsf c.2.2.2.2.2.2.1 c.2.2.2.2.1 c.2.2.2.2.2.2.2.1 c.2.2.2.2.2.1 else []
theorem Zkd {c:Tup Xm} (h:Yq c=true):(0≤c.1∧c.1≤255)∧(0≤c.2.1∧c.2.1≤255)∧(0≤c.2.2.1∧c.2.2.1≤255)∧(0≤c.2.2.2.1∧c.2.2.2.1≤65535):=by
 unfold Yq at h;simp only[Bool.and_eq_true,JE]at h;exact h
theorem Zke (c:Tup Xm):decide (K1 c=[])= !Yq c:=by
 unfold K1;cases Yq c with
 |false=>rfl
 |true=>simp
theorem Zh6 {n:Int} (h0:0≤n) (h1:n≤65535):r43 (n,())=some ((bz (Xn n),()),()):=by
 obtain ⟨k,rfl⟩:=Int.eq_ofNat_of_zero_le h0;exact ZaN k (by omega)
theorem Zh5 {n:Int} (h0:0≤n) (h1:n≤65535):r31 (n,())=some ((bz (Xn n),()),()):=by
 obtain ⟨k,rfl⟩:=Int.eq_ofNat_of_zero_le h0;exact ZaC k (by omega)
theorem Kd {A:Type} {a b n:Nat} {x y:Option A} {r:A} (h:a≤n) (hb:b≤n) (hn:n+n≤4611686018427387904) (hx:x=some r):(bif leN (a+b) 4611686018427387904 then x else y)=some r:=by
 rw[ZI (by omega),Zb,hx]
theorem Zg4 (c:Tup Xm):r96 (c,())=some ((bz (K1 c),()),()):=by
 unfold r96 m96;refine Za (Zcf c) ?_;cases hk:Yq c with
 |false=>unfold K1;rw[hk];rfl
 |true=>
  obtain ⟨⟨a0,a1⟩,⟨x0,x1⟩,⟨s0,s1⟩,p0,p1⟩:=Zkd hk;obtain ⟨(a:Int),(x:Int),(s:Int),(p:Int),z,n,c,i,_⟩:=c;have a0:(0:Int)≤a:=a0;have a1:a≤(255:Int):=a1;have x0:(0:Int)≤x:=x0;have x1:x≤(255:Int):=x1;have s0:(0:Int)≤s:=s0;have s1:s≤(255:Int):=s1;have p0:(0:Int)≤p:=p0;have p1:p≤(65535:Int):=p1;unfold K1;rw[hk,Ze rfl];rw[ZM,Zd];have la:=Kz (n:=a) (by omega);have lx:=Kz (n:=x) (by omega);have ls:=Kz (n:=s) (by omega);have lp:=Kz (n:=p) (by omega);refine Za (Zh6 (n:=a) a0 (by omega)) ?_;dsimp only;generalize Xn a=A at la⊢;rw[YR,YR];refine Kd (n:=100) (by rw[Ju];simp) (by rw[Ju];omega) (by decide) (Kd (n:=100) (by rw[Ju];simp;omega) (by rw[Ju];simp) (by decide) ?_);refine Za (Zh6 (n:=x) x0 (by omega)) ?_;dsimp only;generalize Xn x=X at lx⊢;simp only[YR];refine Kd (n:=100) (by rw[Ju];simp;omega) (by rw[Ju];omega) (by decide) (Kd (n:=100) (by rw[Ju];simp;omega) (by rw[Ju];simp) (by decide) ?_);refine Za (Zh6 (n:=s) s0 (by omega)) ?_;dsimp only;generalize Xn s=S at ls⊢;simp only[YR];refine Kd (n:=100) (by rw[Ju];simp;omega) (by rw[Ju];omega) (by decide) (Kd (n:=100) (by rw[Ju];simp;omega) (by rw[Ju];simp) (by decide) ?_);refine Za (Zh6 (n:=p) p0 p1) ?_;dsimp only;generalize Xn p=P at lp⊢;simp only[YR];refine Kd (n:=100) (by rw[Ju];simp;omega) (by rw[Ju];omega) (by decide) (Kd (n:=100) (by rw[Ju];simp;omega) (by rw[Ju];simp) (by decide) ?_);generalize hQ:[65]++A++[32,88]++X++[32,83]++S++[32,80,99]++P++[32]=Q;have lQ:Q.length≤50:=by rw[←hQ];simp;omega
  cases c<;>cases z<;>cases i<;>cases n<;>exact Kd (n:=100) (by rw[Ju];omega) (by rw[Ju];simp) (by decide) rfl
theorem Zmg (k:Nat) (c z i n:Bool):n77_0 r59 r31 r136 (k+5) ([c,z,i,n],(Zf [c,z,i,n],())) () (bz [],((0:Int),()))=
  some (Sum.inl (bz ((if c then [67]else [])++(if z then [90]else [])++(if i then [73]else [])++(if n then [78]else [])),((4:Int),())),()):=by
 cases c<;>cases z<;>cases i<;>cases n<;>rfl
theorem Zsk (p q r s f:List UInt8) (h:p.length+q.length+r.length+s.length+f.length≤1000):r136 ((bz p::bz q::bz r::bz s::bz f::[]),(bz [32],()))=some ((bz (p++[32]++q++[32]++r++[32]++s++[32]++f),()),()):=by
 show (bif Nat.ble 5 140737488355328&&Nat.ble (Lib.join [p,q,r,s,f] [32]).length 140737488355328 then some ((bz (Lib.join [p,q,r,s,f] [32]),()),())else none)=_
 have e:Lib.join [p,q,r,s,f] [32]=p++[32]++q++[32]++r++[32]++s++[32]++f:=by simp[Lib.join,List.intercalate,List.append_assoc]
 rw[e];generalize hz:p++[32]++q++[32]++r++[32]++s++[32]++f=z;have hl:z.length≤2000:=by rw[←hz];simp;omega
 have hb:Nat.ble z.length 140737488355328=true:=by rw[Nat.ble_eq];omega
 rw[hb];rfl
theorem ZgU (c:Tup Xm):r77 (c,())=some ((bz (K1 c),()),()):=by
 unfold r77 m77;refine Za (Zb3 c) ?_;cases hk:Yq c with
 |false=>unfold K1;rw[hk];rfl
 |true=>
  obtain ⟨⟨a0,a1⟩,⟨x0,x1⟩,⟨s0,s1⟩,p0,p1⟩:=Zkd hk;obtain ⟨(a:Int),(x:Int),(s:Int),(p:Int),z,n,c,i,_⟩:=c;have a0:(0:Int)≤a:=a0;have a1:a≤(255:Int):=a1;have x0:(0:Int)≤x:=x0;have x1:x≤(255:Int):=x1;have s0:(0:Int)≤s:=s0;have s1:s≤(255:Int):=s1;have p0:(0:Int)≤p:=p0;have p1:p≤(65535:Int):=p1;unfold K1;rw[hk,Ze rfl];rw[ZM,Zd];have la:=Kz (n:=a) (by omega);have lx:=Kz (n:=x) (by omega);have ls:=Kz (n:=s) (by omega);have lp:=Kz (n:=p) (by omega);obtain ⟨k,hf⟩: ∃k,fuel=k+5:=⟨fuel-5,by have:=ZZ;omega⟩;have hl:L77_0 ([c,z,i,n],(Zf [c,z,i,n],())) () (bz [],((0:Int),()))=some (Sum.inl (bz ((if c then [67]else [])++(if z then [90]else [])++(if i then [73]else [])++(if n then [78]else [])),((4:Int),())),()):=by
   unfold L77_0;rw[hf];exact Zmg k c z i n
  refine Za hl ?_;have go: ∀f:List UInt8,f.length≤4→((r31 (a,())).bind fun u3=>bif leN ((bz [65]).size+u3.1.1.size) 4611686018427387904 then (r31 (x,())).bind fun u4=>bif leN ((bz [88]).size+u4.1.1.size) 4611686018427387904 then (r31 (s,())).bind fun u5=>
    bif leN ((bz [83]).size+u5.1.1.size) 4611686018427387904 then (r31 (p,())).bind fun u6=>bif leN ((bz [80,99]).size+u6.1.1.size) 4611686018427387904 then (r136 ((bz [65]++u3.1.1)::(bz [88]++u4.1.1)::(bz [83]++u5.1.1)::(bz [80,99]++u6.1.1)::bz f::[],(bz [32],()))).bind fun u7=>some (u7.1,())else none else none else none else none)=
    some ((bz ([65]++Xn a++[32,88]++Xn x++[32,83]++Xn s++[32,80,99]++Xn p++[32]++f),()),()):=fun f hf=>by
   refine Za (Zh5 (n:=a) a0 (by omega)) ?_;refine Kd (n:=100) (by rw[Ju];simp) (by rw[Ju];omega) (by decide) ?_;refine Za (Zh5 (n:=x) x0 (by omega)) ?_;refine Kd (n:=100) (by rw[Ju];simp) (by rw[Ju];omega) (by decide) ?_;refine Za (Zh5 (n:=s) s0 (by omega)) ?_;refine Kd (n:=100) (by rw[Ju];simp) (by rw[Ju];omega) (by decide) ?_;refine Za (Zh5 (n:=p) p0 p1) ?_;refine Kd (n:=100) (by rw[Ju];simp) (by rw[Ju];omega) (by decide) ?_;dsimp only;rw[YR,YR,YR,YR];refine Za (Zsk _ _ _ _ _ (by simp;omega)) ?_;simp[List.append_assoc]
  show (bif (bz ((if c then [67]else [])++(if z then [90]else [])++(if i then [73]else [])++(if n then [78]else []))).toList==(bz []).toList then _ else _)=_
  rw[Zoz _ [] (bz []) rfl];have g:=go (Zsf c z i n) (by cases c<;>cases z<;>cases i<;>cases n<;>decide);cases c<;>cases z<;>cases i<;>cases n<;>exact g

end Go.Proofs.YtcbdldlphpjmbaaGreatDoor.Plain
