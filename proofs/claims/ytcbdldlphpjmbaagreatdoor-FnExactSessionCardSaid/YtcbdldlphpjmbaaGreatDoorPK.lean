/- Plain laws of the printed functions: Str, Str2, Str3, CpuT. No condition beyond those that each lemma states. -/
import Derived.Test.YtcbdldlphpjmbaaGreatDoorPJ
set_option linter.unusedVariables false
set_option linter.unusedSimpArgs false
namespace Go.Proofs.YtcbdldlphpjmbaaGreatDoor.Plain
open Go Go.Tev
def Zri (n:Nat):List UInt8:=if n=0 then []else Lib.decDigits n
theorem Zm6 {n:Nat} (h:n≠0):Zri n=Zri (n/10)++[UInt8.ofNat (48+n%10)]:=by
 unfold Zri;rw[Zc h];by_cases h1:n<10
 ·rw[Lib.decDigits,dif_pos h1,Ze (show n/10=0 by omega),List.nil_append,Nat.mod_eq_of_lt h1]
 ·rw[Lib.decDigits,dif_neg h1,Zc (show n/10≠0 by omega)]
theorem Zsi {x:Int} (h1:0≤x) (h2:x≤255):wB x=x:=by
 show IntKind.u8.wrap x=x;rw[IntKind.wrap_u8];omega
theorem ZmD (n:Nat) (l:List UInt8):Kj [((48+n%10:Nat):Int)]++(⟨l.toArray⟩:ByteArray)=⟨(UInt8.ofNat (48+n%10)::l).toArray⟩:=by
 apply ByteArray.ext;rw[ByteArray.data_append];show (List.map (fun n:Int=>UInt8.ofNat n.toNat) [((48+n%10:Nat):Int)]).toArray++l.toArray=(UInt8.ofNat (48+n%10)::l).toArray;rw[List.map_singleton,Int.toNat_natCast,List.append_toArray,List.singleton_append]
theorem ZcG: ∀(j k:Nat) (n:Nat) (l:List UInt8),n<10^j→n≤9223372036854775807→j<k→l.length+j≤100→
  n43_0 k () () ((n:Int),((⟨l.toArray⟩:ByteArray),()))=some (Sum.inl ((0:Int),((⟨(Zri n++l).toArray⟩:ByteArray),())),())
 |_,0,_,_,_,_,h,_=>absurd h (by omega)
 |j,k+1,n,l,hn,hm,hk,hs=>by
  show (bif ltI 0 (n:Int)then _ else some (Sum.inl ((n:Int),((⟨l.toArray⟩:ByteArray),())),()))=_
  by_cases h0:0<n
  ·rw[Zk (show (0:Int)< (n:Int) by omega),Zb];have hj:0<j:=by
    rcases Nat.eq_zero_or_pos j with e|e
    ·subst e;simp at hn;omega
    ·exact e
   obtain ⟨j,rfl⟩: ∃i,j=i+1:=⟨j-1,by omega⟩;rw[ZP (show (Kj [wB (wI (48+Int.tmod (n:Int) 10))]).size+(⟨l.toArray⟩:ByteArray).size≤4611686018427387904 by show 1+l.toArray.size≤_;rw[List.size_toArray];omega),Zb];have e:wI (Int.tdiv (n:Int) 10)=((n/10:Nat):Int):=by rw[W3 (by omega),Zt (by omega) (by omega)];omega
   rw[e];have e2:Kj [wB (wI (48+Int.tmod (n:Int) 10))]++(⟨l.toArray⟩:ByteArray)=⟨(UInt8.ofNat (48+n%10)::l).toArray⟩:=by
    have hw:wB (wI (48+Int.tmod (n:Int) 10))=((48+n%10:Nat):Int):=by
     obtain ⟨t0,t1⟩:=ZrE (a:=(n:Int)) (n:=10) (by omega) (by omega);have et:Int.tmod (n:Int) 10=((n%10:Nat):Int):=by rw[Int.tmod_eq_emod_of_nonneg (by omega)];omega
     rw[et,Zt (by omega) (by omega)];exact Zsi (by omega) (by omega)
    rw[hw];exact ZmD n l
   rw[e2];show n43_0 k () () (((n/10:Nat):Int),((⟨(UInt8.ofNat (48+n%10)::l).toArray⟩:ByteArray),()))=_;rw[ZcG j k (n/10) (UInt8.ofNat (48+n%10)::l) (by rw[Nat.pow_succ]at hn;omega) (by omega) (by omega) (by rw[List.length_cons];omega),Zm6 (n:=n) (by omega),List.append_assoc,List.singleton_append]
  ·obtain rfl:n=0:=by omega
   rw[Zx (by decide),Zd];rfl
theorem ZaL (n:Nat) (hn:n≤9223372036854775807):r43 ((n:Int),())=some (((⟨(Lib.decDigits n).toArray⟩:ByteArray),()),()):=by
 unfold r43 m43;dsimp only;by_cases h:n=0
 ·subst h;rw[show eqI ((0:Nat):Int) 0=true from rfl,Zb,Lib.decDigits,dif_pos (by decide)];rfl
 ·rw[Zi (show¬(n:Int)=0 by omega),Zd];refine Za (ZcG 20 fuel n [] (by omega) hn (by have:=Z6;omega) (by decide)) ?_;rw[List.append_nil];unfold Zri;rw[Zc h];rfl
def KK (l:List UInt8):Nat:=l.foldl (fun x c=>10*x+(c.toNat-48)) 0
theorem ZdR {d:Nat} (h:d<10):(UInt8.ofNat (48+d)).toNat=48+d:=by
 rw[UInt8.toNat_ofNat'];omega
theorem Un (n:Nat):Lib.decDigits n=if n<10 then [UInt8.ofNat (48+n)]else Lib.decDigits (n/10)++[UInt8.ofNat (48+n%10)]:=by
 rw[Lib.decDigits];split<;>rfl
theorem Zoz (n:Nat):KK (Lib.decDigits n)=n:=by
 induction n using Nat.strongRecOn with
 |_ n ih=>
  rw[Un];split
  ·rename_i h;show 10*0+((UInt8.ofNat (48+n)).toNat-48)=n;rw[ZdR h];omega
  ·rename_i h;have:=ih (n/10) (by omega);unfold KK at this⊢;rw[List.foldl_append,this];show 10*(n/10)+((UInt8.ofNat (48+n%10)).toNat-48)=n;rw[ZdR (by omega)];omega
theorem Zfp (n:Nat): ∀c,c∈Lib.decDigits n→48≤c.toNat∧c.toNat≤57:=by
 induction n using Nat.strongRecOn with
 |_ n ih=>
  intro c hc;rw[Un]at hc;split at hc
  ·rename_i h;rw[List.mem_singleton.1 hc,ZdR h];omega
  ·rcases List.mem_append.1 hc with h1|h1
   ·exact ih (n/10) (by omega) c h1
   ·rw[List.mem_singleton.1 h1,ZdR (by omega)];omega
theorem ZhY: ∀(k n:Nat),n<10^(k+1)→(Lib.decDigits n).length≤k+1∧1≤(Lib.decDigits n).length
 |0,n,h=>by
  rw[Un,Ze (by simpa using h)];exact ⟨Nat.le_refl _,Nat.le_refl _⟩
 |k+1,n,h=>by
  rw[Un];split
  ·exact ⟨by show 1≤_;omega,Nat.le_refl _⟩
  ·obtain ⟨a,b⟩:=ZhY k (n/10) (by rw[Nat.pow_succ]at h;omega);rw[List.length_append,List.length_singleton];exact ⟨by omega,by omega⟩
def YP (c:UInt8):Bool:=decide (48≤c.toNat)&&decide (c.toNat≤57)
def Yy (x:Nat) (c:UInt8):Nat:=10*x+(c.toNat-48)
def Zs (l:List UInt8):Int:=if l=[]∨5<l.length then-1 else if l.all YP&&decide (Lib.decDigits (KK l)=l)then (KK l:Int)else-1
theorem UZ (s:ByteArray) (i:Nat) (h:i<s.data.toList.length):bt s (i:Int)=((s.data.toList[i]).toNat:Int):=by
 unfold bt;rw[Int.toNat_natCast,List.getD_eq_getElem?_getD,List.getElem?_eq_getElem h];rfl
theorem ZfX (s:ByteArray) (hs:s.data.toList.length≤5): ∀(k i x:Nat),i≤s.data.toList.length→s.data.toList.length-i<k→x<10^i→
  n103_0 r43 k (s,()) () ((x:Int),((i:Int),()))=
   some ((if (s.data.toList.drop i).all YP then Sum.inl ((((s.data.toList.drop i).foldl Yy x:Nat):Int),((s.data.toList.length:Int),()))else Sum.inr ((-1:Int),())),())
 |0,_,_,_,h,_=>absurd h (by omega)
 |k+1,i,x,hi,hk,hx=>by
  have hsz:(s.size:Int)=(s.data.toList.length:Int):=by rw[Lib.size_eq]
  have hp:10^i≤10^5:=Nat.pow_le_pow_right (by decide) (by omega);show (bif ltI (i:Int) (s.size:Int)then (bif leI 0 (i:Int)then (bif ltI (i:Int) (s.size:Int)then (bif ltI (bt s (i:Int)) 48 then some (Sum.inr ((-1:Int),()),())else bif leI 0 (i:Int)then (bif ltI (i:Int) (s.size:Int)then (bif ltI 57 (bt s (i:Int))then some (Sum.inr ((-1:Int),()),())else bif leI 0 (i:Int)then (bif ltI (i:Int) (s.size:Int)then
   n103_0 r43 k (s,()) () (wI (wI (wI (10*(x:Int))+wI (bt s (i:Int)))-48),(wI ((i:Int)+1),()))else none)else none)else none)else none)else none)else none)else some (Sum.inl ((x:Int),((i:Int),())),()))=_
  rw[hsz];by_cases hc:i<s.data.toList.length
  ·have h8:(s.data.toList[i]).toNat<256:=(s.data.toList[i]).toNat_lt;rw[Zk (show (i:Int)< (s.data.toList.length:Int) by omega),Zq (show (0:Int)≤(i:Int) by omega),UZ s i hc];simp only[Zb];have ed:s.data.toList.drop i=s.data.toList[i]::s.data.toList.drop (i+1):=JL hc;rw[ed];generalize s.data.toList[i]=c at h8⊢;by_cases h1:c.toNat<48
   ·rw[Zk (by omega),Zb,List.all_cons,show YP c=false by unfold YP;rw[Zw (by omega),Bool.false_and]];simp
   ·by_cases h2:57<c.toNat
    ·rw[Zx (by omega),Zd,Zk (by omega),Zb,List.all_cons,show YP c=false by unfold YP;rw[Zw (show¬c.toNat≤57 by omega),Bool.and_false]];simp
    ·have hd:YP c=true:=by unfold YP;rw[ZC (by omega),ZC (by omega)];rfl
     have ev:wI (wI (wI (10*(x:Int))+wI (c.toNat:Int))-48)=((Yy x c:Nat):Int):=by
      unfold Yy;rw[Zt (x:=10*(x:Int)) (by omega) (by omega),Zt (x:=(c.toNat:Int)) (by omega) (by omega),Zt (x:=10*(x:Int)+(c.toNat:Int)) (by omega) (by omega),Zt (by omega) (by omega)];omega
     rw[Zx (by omega),Zd,Zx (by omega),Zd,ev,Qx (by omega),ZfX s hs k (i+1) (Yy x c) (by omega) (by omega) (by unfold Yy;rw[Nat.pow_succ];omega),List.all_cons,hd,Bool.true_and,List.foldl_cons]
  ·obtain rfl:i=s.data.toList.length:=by omega
   rw[Zx (by omega),Zd,List.drop_length];rfl
theorem Zol (a:ByteArray) (l:List UInt8) (b:ByteArray) (h:b.data.toList=l):(a.toList==b.toList)=decide (a.data.toList=l):=by
 rw[ByteArray.toList_eq,ByteArray.toList_eq,h];by_cases e:a.data.toList=l
 ·rw[ZC e,e,beq_self_eq_true]
 ·rw[Zw e];exact beq_eq_false_iff_ne.2 e
theorem Zo5 (s:ByteArray):r103 (s,())=some ((Zs s.data.toList,()),()):=by
 unfold r103 m103 Zs;dsimp only;have hsz:(s.size:Int)=(s.data.toList.length:Int):=by rw[Lib.size_eq]
 have e0:(s.toList==(bz []).toList)=decide (s.data.toList=[]):=Zol s [] (bz []) rfl;rw[e0,hsz];by_cases h0:s.data.toList=[]
 ·rw[ZC h0,Zb,Ze (.inl h0)]
 rw[Zw h0,Zd];by_cases h5:5<s.data.toList.length
 ·rw[Zk (show (5:Int)< (s.data.toList.length:Int) by omega),Zb,Ze (.inr h5)]
 rw[Zx (show¬(5:Int)< (s.data.toList.length:Int) by omega),Zd,Zc (by rintro (h|h);exact h0 h;exact h5 h)];have hl:=ZfX s (by omega) fuel 0 0 (Nat.zero_le _) (by have:=Z6;omega) (by decide);rw[List.drop_zero]at hl;refine Za hl ?_;cases hd:s.data.toList.all YP with
 |false=>rw[Zc (by simp),Bool.false_and,Zc (by simp)];rfl
 |true=>
  rw[Ze rfl,Bool.true_and];show ((r43 (((s.data.toList.foldl Yy 0:Nat):Int),())).bind fun r2=>bif (!(r2.1.1.toList==s.toList))then some ((-(1:Int),()),())else some (((((s.data.toList.foldl Yy 0:Nat):Int)),()),()))=_
  have hv:s.data.toList.foldl Yy 0=KK s.data.toList:=rfl;have hb: ∀(l:List UInt8) (x:Nat),l.foldl Yy x≤(x+1)*300^l.length:=by
   intro l;induction l with
   |nil=>intro x;simp
   |cons c l ih=>
    intro x;have h8:c.toNat<256:=c.toNat_lt;rw[List.foldl_cons,List.length_cons,Nat.pow_succ];refine Nat.le_trans (ih _) ?_;have:Yy x c+1≤(x+1)*300:=by unfold Yy;omega
    calc (Yy x c+1)*300^l.length≤((x+1)*300)*300^l.length:=Nat.mul_le_mul_right _ this
     _=(x+1)*(300^l.length*300):=by rw[Nat.mul_assoc,Nat.mul_comm 300]
  have hbound:KK s.data.toList≤9223372036854775807:=by
   have h1:=hb s.data.toList 0;rw[hv]at h1;have h2:300^s.data.toList.length≤300^5:=Nat.pow_le_pow_right (by decide) (by omega);omega
  rw[hv];refine Za (ZaL _ hbound) ?_;have e1:((⟨(Lib.decDigits (KK s.data.toList)).toArray⟩:ByteArray).toList==s.toList)=decide (Lib.decDigits (KK s.data.toList)=s.data.toList):=Zol _ _ s rfl;show (bif (!((⟨(Lib.decDigits (KK s.data.toList)).toArray⟩:ByteArray).toList==s.toList))then some ((-(1:Int),()),())else some ((((KK s.data.toList:Nat):Int),()),()))=_
  rw[e1];by_cases hd2:Lib.decDigits (KK s.data.toList)=s.data.toList
  ·rw[ZC hd2,Ze rfl];rfl
  ·rw[Zw hd2,Zc (by simp)];rfl
theorem Zpf {n:Nat} (h:n<100000):Zs (Lib.decDigits n)=n:=by
 obtain ⟨a,b⟩:=ZhY 4 n h;unfold Zs;rw[Zc (by rintro (e|e);rw[e]at b;exact absurd b (by decide);omega)];have hd:(Lib.decDigits n).all YP=true:=List.all_eq_true.2 fun c hc=>by
  obtain ⟨h1,h2⟩:=Zfp n c hc;unfold YP;rw[ZC h1,ZC h2];rfl
 rw[hd,Zoz,ZC rfl];rfl
theorem Zp2: ∀(l:List UInt8) (x:Nat),l.all YP=true→l.foldl Yy x< (x+1)*10^l.length
 | [],x,_=>by simp
 |c::l,x,h=>by
  rw[List.all_cons,Bool.and_eq_true]at h;obtain ⟨h1,h2⟩:=h;unfold YP at h1;rw[Bool.and_eq_true,decide_eq_true_iff,decide_eq_true_iff]at h1;rw[List.foldl_cons,List.length_cons,Nat.pow_succ];refine Nat.lt_of_lt_of_le (Zp2 l _ h2) ?_;have:Yy x c+1≤(x+1)*10:=by unfold Yy;omega
  calc (Yy x c+1)*10^l.length≤((x+1)*10)*10^l.length:=Nat.mul_le_mul_right _ this
   _=(x+1)*(10^l.length*10):=by rw[Nat.mul_assoc,Nat.mul_comm 10]
theorem Zdu {l:List UInt8} (h:Zs l≠ -1): ∃n:Nat,n<100000∧l=Lib.decDigits n∧Zs l=n:=by
 unfold Zs at h⊢;split at h
 ·exact absurd rfl h
 ·rename_i h5;split at h
  ·rename_i hd;rw[Zc h5,Ze hd];rw[Bool.and_eq_true,decide_eq_true_iff]at hd;have h1:=Zp2 l 0 hd.1;have h2:10^l.length≤10^5:=Nat.pow_le_pow_right (by decide) (by rcases Nat.lt_or_ge 5 l.length with e|e;exact absurd (.inr e) h5;exact e)
   exact ⟨KK l,by show l.foldl Yy 0<100000;omega,hd.2.symm,rfl⟩
  ·exact absurd rfl h
theorem ZnB {l:List UInt8}:Zs l= -1↔ ∀n:Nat,n<100000→l≠Lib.decDigits n:=by
 constructor
 ·rintro h n hn rfl;rw[Zpf hn]at h;omega
 ·intro h;rcases Decidable.em (Zs l= -1)with e|e
  ·exact e
  ·obtain ⟨n,a,b,_⟩:=Zdu e;exact absurd b (h n a)
def Jl:List UInt8→Option (List UInt8×List UInt8)
 | []=>none
 |c::r=>if c=32 then some ([],r)else (Jl r).map fun p=>(c::p.1,p.2)
def Zpc (s:ByteArray):ByteArray×Int×Bool×Unit:=match Jl s.data.toList with
 |none=>(s,-1,true,())
 |some p=>(⟨p.1.toArray⟩,Zs p.2,leI 0 (Zs p.2),())
theorem Zq1 (s:ByteArray) (i j:Nat):(s.extract i j).data.toList=(s.data.toList.take j).drop i:=by
 rw[ByteArray.data_extract,Array.toList_extract,List.extract_eq_take_drop,List.drop_take]
theorem ZeG (s:ByteArray) (hs:s.data.toList.length≤4000000): ∀(k i:Nat),i≤s.data.toList.length→s.data.toList.length-i<k→
  n40_0 r103 k (s,()) () ((i:Int),())=some (match Jl (s.data.toList.drop i)with
   |none=>(Sum.inl ((s.data.toList.length:Int),()),())
   |some p=>(Sum.inr ((⟨(s.data.toList.take i++p.1).toArray⟩:ByteArray),(Zs p.2,(leI 0 (Zs p.2),()))),()))
 |0,_,_,h=>absurd h (by omega)
 |k+1,i,hi,hk=>by
  have hsz:(s.size:Int)=(s.data.toList.length:Int):=by rw[Lib.size_eq]
  have hsn:s.size=s.data.toList.length:=Lib.size_eq s;show (bif ltI (i:Int) (s.size:Int)then (bif leI 0 (i:Int)then (bif ltI (i:Int) (s.size:Int)then (bif eqI (bt s (i:Int)) 32 then (bif leI 0 (wI ((i:Int)+1))then (bif leI (wI ((i:Int)+1)) (s.size:Int)then
   ((r103 (ByteArray.extract s (Int.toNat (wI ((i:Int)+1))) s.size,())).bind fun r0=>bif leI 0 (i:Int)then (bif leI (i:Int) (s.size:Int)then some (Sum.inr (ByteArray.extract s 0 (Int.toNat (i:Int)),(r0.1.1,(leI 0 r0.1.1,()))),())else none)else none)else none)else none)
   else n40_0 r103 k (s,()) () (wI ((i:Int)+1),()))else none)else none)else some (Sum.inl ((i:Int),()),()))=_
  rw[hsz];by_cases hc:i<s.data.toList.length
  ·rw[Zk (show (i:Int)< (s.data.toList.length:Int) by omega),Zq (show (0:Int)≤(i:Int) by omega),UZ s i hc,Qx (by omega),Zq (show (0:Int)≤((i+1:Nat):Int) by omega),Zq (show ((i+1:Nat):Int)≤(s.data.toList.length:Int) by omega),Zq (show (i:Int)≤(s.data.toList.length:Int) by omega)];simp only[Zb];have ed:s.data.toList.drop i=s.data.toList[i]::s.data.toList.drop (i+1):=JL hc;rw[ed];by_cases h32:s.data.toList[i]=32
   ·rw[h32,show eqI (((32:UInt8).toNat:Nat):Int) 32=true from rfl,Zb,Zo5];simp only[Jl,if_true,Zo];have e1:(s.extract (Int.toNat ((i+1:Nat):Int)) s.size).data.toList=s.data.toList.drop (i+1):=by
     rw[Zq1,Int.toNat_natCast,hsn,List.take_length]
    have e2:s.extract 0 (Int.toNat (i:Int))=⟨(s.data.toList.take i++[]).toArray⟩:=by
     apply Go.WideShapes.bytes_inj;rw[Zq1,Int.toNat_natCast,List.append_nil,List.drop_zero]
    rw[e1,e2]
   ·have hne:eqI ((s.data.toList[i]).toNat:Int) 32=false:=Zi fun e=>h32 (UInt8.toNat_inj.1 (by show _=32;omega));rw[hne,Zd,ZeG s hs k (i+1) (by omega) (by omega)];simp only[Jl,Zc h32];cases Jl (s.data.toList.drop (i+1))with
    |none=>rfl
    |some p=>
     simp only[Option.map_some];have e3:s.data.toList.take (i+1)++p.1=s.data.toList.take i++s.data.toList[i]::p.1:=by
      rw[List.take_succ_eq_append_getElem hc,List.append_assoc,List.singleton_append]
     rw[e3]
  ·obtain rfl:i=s.data.toList.length:=by omega
   rw[Zx (by omega),Zd,List.drop_length];rfl
theorem Zi9 (s:ByteArray) (hs:s.data.toList.length≤4000000):r40 (s,())=some ((Zpc s,()):(ByteArray×Int×Bool×Unit)×Unit):=by
 unfold r40 m40 Zpc;have h:=ZeG s hs fuel 0 (Nat.zero_le _) (by have:=Z6;omega);rw[List.drop_zero,List.take_zero]at h;refine Za h ?_;cases Jl s.data.toList with
 |none=>rfl
 |some p=>rfl
theorem pre1 (b:UInt8) (l:List UInt8):([32]:List UInt8).isPrefixOf (b::l)=decide (b=32):=by
 by_cases h:b=32
 ·subst h;simp[List.isPrefixOf]
 ·rw[Zw h];have:((32:UInt8)==b)=false:=beq_eq_false_iff_ne.2 (Ne.symm h);simp[List.isPrefixOf,this]
theorem Zie: ∀l:List UInt8,(Jl l=none∧Lib.index l [32]= -1)∨ ∃a b,Jl l=some (a,b)∧l=a++32::b∧Lib.index l [32]=a.length
 | []=> .inl ⟨rfl,rfl⟩
 |c::l=>by
  by_cases h:c=32
  ·subst h;refine .inr ⟨[],l,by simp[Jl],rfl,?_⟩;unfold Lib.index;rw[pre1,ZC rfl,Ze rfl];rfl
  ·have e:Lib.index (c::l) [32]=if Lib.index l [32]== -1 then-1 else Lib.index l [32]+1:=by
    conv=>lhs;unfold Lib.index
    rw[pre1,Zw h,Zc (by simp)]
   rcases Zie l with ⟨h1,h2⟩| ⟨a,b,h1,h2,h3⟩
   ·refine .inl ⟨by simp[Jl,h,h1],?_⟩;rw[e,h2];decide
   ·refine .inr ⟨c::a,b,by simp[Jl,h,h1],by rw[h2];rfl,?_⟩;rw[e,h3,Zc (show¬(((a.length:Nat):Int)== -1)=true by rw[beq_iff_eq];omega),List.length_cons];omega
theorem Zrg (l:List UInt8):Lib.cut l [32]=match Jl l with|none=>(l,[],false)|some p=>(p.1,p.2,true):=by
 unfold Lib.cut;rcases Zie l with ⟨h1,h2⟩| ⟨a,b,h1,h2,h3⟩
 ·rw[h1,h2,Zc (by decide)]
 ·rw[h1,h3,Ze (by omega)];simp only[Int.toNat_natCast];rw[h2,List.take_left,show a.length+([32]:List UInt8).length=(a++[32]).length by simp,show a++32::b=(a++[32])++b by simp,List.drop_left]
theorem ZiP: ∀(w b:List UInt8),¬(32:UInt8)∈w→Jl (w++32::b)=some (w,b)
 | [],b,_=>by simp[Jl]
 |c::w,b,h=>by
  have hc: ¬c=32:=fun e=>h (by rw[e];exact List.mem_cons_self);have hw: ¬(32:UInt8)∈w:=fun e=>h (List.mem_cons_of_mem _ e);simp[Jl,hc,ZiP w b hw]
theorem Zjs (w l:List UInt8) (hw: ¬(32:UInt8)∈w):(Lib.hasPrefix l (w++[32])=true∧ ∃b,Jl l=some (w,b)∧Lib.trimPrefix l (w++[32])=b)∨
  (Lib.hasPrefix l (w++[32])=false∧ ∀b,Jl l≠some (w,b)):=by
 cases h:Lib.hasPrefix l (w++[32])
 ·refine .inr ⟨rfl,fun b hb=> ?_⟩;rcases Zie l with ⟨h1,_⟩| ⟨a,b',h1,h2,_⟩
  ·rw[h1]at hb;cases hb
  ·rw[h1]at hb;cases hb;have:Lib.hasPrefix l (w++[32])=true:=by
    unfold Lib.hasPrefix;rw[List.isPrefixOf_iff_prefix];exact ⟨b,by rw[h2];simp⟩
   rw[this]at h;cases h
 ·refine .inl ⟨rfl,?_⟩;have h':=h;unfold Lib.hasPrefix at h;rw[List.isPrefixOf_iff_prefix]at h;obtain ⟨b,rfl⟩:=h;refine ⟨b,?_,?_⟩
  ·have e:w++[32]++b=w++32::b:=by simp
   rw[e];exact ZiP w b hw
  ·unfold Lib.trimPrefix;rw[h',Ze rfl,List.drop_left]
def ZkX (c:UInt8):List (List UInt8)→List (List UInt8)
 | []=>[[c]]
 |h::t=>(c::h)::t
def J4:List UInt8→List (List UInt8)
 | []=>[[]]
 |c::r=>if c=10 then []::J4 r else ZkX c (J4 r)
theorem pre10 (b:UInt8) (l:List UInt8):([10]:List UInt8).isPrefixOf (b::l)=decide (b=10):=by
 by_cases h:b=10
 ·subst h;simp[List.isPrefixOf]
 ·rw[Zw h];have:((10:UInt8)==b)=false:=beq_eq_false_iff_ne.2 (Ne.symm h);simp[List.isPrefixOf,this]
theorem Zid: ∀l:List UInt8,(¬(10:UInt8)∈l∧Lib.index l [10]= -1)∨ ∃a b,¬(10:UInt8)∈a∧l=a++10::b∧Lib.index l [10]=a.length
 | []=> .inl ⟨by simp,rfl⟩
 |c::l=>by
  by_cases h:c=10
  ·subst h;refine .inr ⟨[],l,by simp,rfl,?_⟩;unfold Lib.index;rw[pre10,ZC rfl,Ze rfl];rfl
  ·have e:Lib.index (c::l) [10]=if Lib.index l [10]== -1 then-1 else Lib.index l [10]+1:=by
    conv=>lhs;unfold Lib.index
    rw[pre10,Zw h,Zc (by simp)]
   rcases Zid l with ⟨h1,h2⟩| ⟨a,b,h1,h2,h3⟩
   ·refine .inl ⟨by simp[h1,Ne.symm h],?_⟩;rw[e,h2];decide
   ·refine .inr ⟨c::a,b,by simp[h1,Ne.symm h],by rw[h2];rfl,?_⟩;rw[e,h3,Zc (show¬(((a.length:Nat):Int)== -1)=true by rw[beq_iff_eq];omega),List.length_cons];omega
theorem Zce: ∀a:List UInt8,¬(10:UInt8)∈a→J4 a=[a]
 | [],_=>rfl
 |c::a,h=>by
  have hc: ¬c=10:=fun e=>h (by rw[e];exact List.mem_cons_self);rw[J4,Zc hc,Zce a fun e=>h (List.mem_cons_of_mem _ e)];rfl
theorem Zc1: ∀a b:List UInt8,¬(10:UInt8)∈a→J4 (a++10::b)=a::J4 b
 | [],b,_=>by rw[List.nil_append,J4,Ze rfl]
 |c::a,b,h=>by
  have hc: ¬c=10:=fun e=>h (by rw[e];exact List.mem_cons_self);rw[List.cons_append,J4,Zc hc,Zc1 a b fun e=>h (List.mem_cons_of_mem _ e)];rfl
theorem ZhH: ∀a:List UInt8,J4 a≠ []
 | []=>by simp[J4]
 |c::a=>by
  unfold J4;split
  ·simp
  ·cases J4 a<;>simp[ZkX]
theorem Zog: ∀(n:Nat) (l:List UInt8),l.length≤n→Lib.splitK [10] 0 (Lib.count l [10]) l=J4 l:=by
 intro n;induction n with
 |zero=>
  intro l h;obtain rfl:l=[]:=List.length_eq_zero_iff.1 (by omega);rfl
 |succ n ih=>
  intro l h;rcases Zid l with ⟨h1,h2⟩| ⟨a,b,h1,h2,h3⟩
  ·rw[Lib.count_miss h2,Zce l h1];rfl
  ·have ed:l.drop (a.length+1)=b:=by rw[h2,show a.length+1=(a++[10]).length by simp,show a++10::b=(a++[10])++b by simp,List.drop_left]
   have et:l.take a.length=a:=by rw[h2,List.take_left]
   rw[Lib.count_hit (by simp) h3,Nat.add_comm]
   conv=>lhs;unfold Lib.splitK
   rw[Zc (show¬(Lib.index l [10]== -1)=true by rw[h3,beq_iff_eq];omega),h3,Int.toNat_natCast,Nat.add_zero,et];show a::Lib.splitK [10] 0 (Lib.count (l.drop (a.length+1)) [10]) (l.drop (a.length+1))=_;rw[ed,ih b (by rw[h2]at h;simp at h;omega),h2,Zc1 a b h1]
theorem Zpw (s sep:ByteArray) (h:sep.data.toList=[10]):(Lib.splitB sep 0 (Lib.countB s sep) s).map (fun b:ByteArray=>b.data.toList)=J4 s.data.toList:=by
 rw[Lib.splitB_data];show Lib.splitK _ 0 (Lib.count _ _) _=_;rw[h];exact Zog _ _ (Nat.le_refl _)
def QV (l:List UInt8):List (List UInt8):=if (J4 l).getLast? =some []then (J4 l).dropLast else J4 l
theorem ZcU {a:List UInt8} (h: ¬(10:UInt8)∈a):QV a=if a=[]then []else [a]:=by
 unfold QV;rw[Zce a h];by_cases e:a=[]
 ·subst e;rfl
 ·simp[e]
theorem Zed {a:List UInt8} (b:List UInt8) (h: ¬(10:UInt8)∈a):QV (a++10::b)=a::QV b:=by
 unfold QV;rw[Zc1 a b h];have hn:=ZhH b;generalize J4 b=t at hn⊢;cases t with
 |nil=>exact absurd rfl hn
 |cons x t=>
  rw[List.getLast?_cons_cons];split
  ·rw[List.dropLast_cons_of_ne_nil (by simp)]
  ·rfl
theorem Zee: ∀(n:Nat) (l:List UInt8),l.length≤n→(QV l).length≤l.length∧ ∀x,x∈QV l→x.length≤l.length:=by
 intro n;induction n with
 |zero=>
  intro l h;obtain rfl:l=[]:=List.length_eq_zero_iff.1 (by omega);exact ⟨Nat.le_refl _,fun x hx=>by cases hx⟩
 |succ n ih=>
  intro l h;rcases Zid l with ⟨h1,_⟩| ⟨a,b,h1,h2,_⟩
  ·rw[ZcU h1];split
   ·exact ⟨Nat.zero_le _,fun x hx=>by cases hx⟩
   ·rename_i e;have:0<l.length:=List.length_pos_iff.2 e;exact ⟨by simp;omega,fun x hx=>by rw[List.mem_singleton.1 hx];exact Nat.le_refl _⟩
  ·rw[h2,Zed b h1];obtain ⟨i1,i2⟩:=ih b (by rw[h2]at h;simp at h;omega);refine ⟨by simp;omega,fun x hx=> ?_⟩;rcases List.mem_cons.1 hx with rfl|hx
   ·simp
   ·have:=i2 x hx;simp;omega
theorem Zfo: ∀(l:List UInt8) (acc:Nat),l.all YP=true→Lib.decFrom acc l=some (l.foldl Yy acc)
 | [],_,_=>rfl
 |c::l,acc,h=>by
  rw[List.all_cons,Bool.and_eq_true]at h;obtain ⟨h1,h2⟩:=h;have hd:48≤c.toNat∧c.toNat≤57:=by
   unfold YP at h1;rw[Bool.and_eq_true,decide_eq_true_iff,decide_eq_true_iff]at h1;exact h1
  rw[Lib.decFrom,Lib.digitVal,Ze hd];show Lib.decFrom (acc*10+(c.toNat-48)) l=_;rw[Zfo l _ h2,List.foldl_cons,Yy,Nat.mul_comm]
theorem Zqj (n:Nat):(Lib.decDigits n).all YP=true:=List.all_eq_true.2 fun c hc=>by
 obtain ⟨h1,h2⟩:=Zfp n c hc;unfold YP;rw[ZC h1,ZC h2];rfl
theorem ZoK {n:Nat} (h:n<100000):Lib.atoiAll (Lib.decDigits n)= .ok (n:Int):=by
 obtain ⟨a,b⟩:=ZhY 4 n h;rw[Lib.atoiAll_short _ (by omega)];have hv:Lib.decFrom 0 (Lib.decDigits n)=some n:=by
  rw[Zfo _ _ (Zqj n)];exact congrArg some (Zoz n)
 have hd:=Zfp n;generalize Lib.decDigits n=l at a b hv hd⊢;cases l with
 |nil=>simp at b
 |cons c l=>
  obtain ⟨h1,h2⟩:=hd c List.mem_cons_self;have e1:(c==45)=false:=by rw[beq_eq_false_iff_ne];rintro rfl;simp at h1
  have e2:(c==43)=false:=by rw[beq_eq_false_iff_ne];rintro rfl;simp at h1
  rw[Lib.atoi,e1,e2,Zc (by simp),Zc (by simp),Lib.decNat,List.isEmpty_cons,Zc (by simp),hv];rfl
theorem Zif (n:Nat):Lib.itoa (n:Int)=Lib.decDigits n:=by
 unfold Lib.itoa;rw[Zc (by omega),Int.toNat_natCast]
theorem XN (a b:List UInt8):bz a++bz b=bz (a++b):=by
 apply ByteArray.ext;rw[ByteArray.data_append];exact List.append_toArray ..
theorem Ju (a:List UInt8):ByteArray.size (bz a)=a.length:=by
 show Array.size ⟨a⟩=_;rfl
theorem ZaB (n:Nat) (hn:n≤9223372036854775807):r31 ((n:Int),())=some ((bz (Lib.decDigits n),()),()):=by
 unfold r31 m31;have h:r75 ((n:Int),())=some ((bz (Lib.decDigits n),()),()):=by
  show (bif decide (-9223372036854775808≤(n:Int))&&decide ((n:Int)≤9223372036854775807)then some ((bz (Lib.itoa (n:Int)),()),())else none)=_
  rw[ZC (by omega),ZC (by omega),Zif];rfl
 exact Za h rfl
def Xj (n:Int):List UInt8:=Lib.decDigits n.toNat
theorem Kt {n:Int} (h1:n≤65535):(Xj n).length≤5:=(ZhY 4 n.toNat (by omega)).1
def ZrW (a b c d:Bool):List UInt8:=match a,b,c,d with
 |false,false,false,false=>[45]
 |a,b,c,d=>(if a then [67]else [])++(if b then [90]else [])++(if c then [73]else [])++(if d then [78]else [])
def KY (c:Tup Xi):List UInt8:=if Yp c then [65]++Xj c.1++[32,88]++Xj c.2.1++[32,83]++Xj c.2.2.1++[32,80,99]++Xj c.2.2.2.1++[32]++ZrW c.2.2.2.2.2.2.1 c.2.2.2.2.1 c.2.2.2.2.2.2.2.1 c.2.2.2.2.2.1 else []
theorem Zj0 {c:Tup Xi} (h:Yp c=true):(0≤c.1∧c.1≤255)∧(0≤c.2.1∧c.2.1≤255)∧(0≤c.2.2.1∧c.2.2.1≤255)∧(0≤c.2.2.2.1∧c.2.2.2.1≤65535):=by
 unfold Yp at h;simp only[Bool.and_eq_true,JE]at h;exact h
theorem Zj1 (c:Tup Xi):decide (KY c=[])= !Yp c:=by
 unfold KY;cases Yp c with
 |false=>rfl
 |true=>simp
theorem ZhX {n:Int} (h0:0≤n) (h1:n≤65535):r43 (n,())=some ((bz (Xj n),()),()):=by
 obtain ⟨k,rfl⟩:=Int.eq_ofNat_of_zero_le h0;exact ZaL k (by omega)
theorem ZhW {n:Int} (h0:0≤n) (h1:n≤65535):r31 (n,())=some ((bz (Xj n),()),()):=by
 obtain ⟨k,rfl⟩:=Int.eq_ofNat_of_zero_le h0;exact ZaB k (by omega)
theorem XU {A:Type} {a b n:Nat} {x y:Option A} {r:A} (h:a≤n) (hb:b≤n) (hn:n+n≤4611686018427387904) (hx:x=some r):(bif leN (a+b) 4611686018427387904 then x else y)=some r:=by
 rw[ZP (by omega),Zb,hx]
theorem ZgX (c:Tup Xi):r96 (c,())=some ((bz (KY c),()),()):=by
 unfold r96 m96;refine Za (Zb8 c) ?_;cases hk:Yp c with
 |false=>unfold KY;rw[hk];rfl
 |true=>
  obtain ⟨⟨a0,a1⟩,⟨x0,x1⟩,⟨s0,s1⟩,p0,p1⟩:=Zj0 hk;obtain ⟨(a:Int),(x:Int),(s:Int),(p:Int),z,n,c,i,_⟩:=c;have a0:(0:Int)≤a:=a0;have a1:a≤(255:Int):=a1;have x0:(0:Int)≤x:=x0;have x1:x≤(255:Int):=x1;have s0:(0:Int)≤s:=s0;have s1:s≤(255:Int):=s1;have p0:(0:Int)≤p:=p0;have p1:p≤(65535:Int):=p1;unfold KY;rw[hk,Ze rfl];rw[ZK,Zd];have la:=Kt (n:=a) (by omega);have lx:=Kt (n:=x) (by omega);have ls:=Kt (n:=s) (by omega);have lp:=Kt (n:=p) (by omega);refine Za (ZhX (n:=a) a0 (by omega)) ?_;dsimp only;generalize Xj a=A at la⊢;rw[XN,XN];refine XU (n:=100) (by rw[Ju];simp) (by rw[Ju];omega) (by decide) (XU (n:=100) (by rw[Ju];simp;omega) (by rw[Ju];simp) (by decide) ?_);refine Za (ZhX (n:=x) x0 (by omega)) ?_;dsimp only;generalize Xj x=X at lx⊢;simp only[XN];refine XU (n:=100) (by rw[Ju];simp;omega) (by rw[Ju];omega) (by decide) (XU (n:=100) (by rw[Ju];simp;omega) (by rw[Ju];simp) (by decide) ?_);refine Za (ZhX (n:=s) s0 (by omega)) ?_;dsimp only;generalize Xj s=S at ls⊢;simp only[XN];refine XU (n:=100) (by rw[Ju];simp;omega) (by rw[Ju];omega) (by decide) (XU (n:=100) (by rw[Ju];simp;omega) (by rw[Ju];simp) (by decide) ?_);refine Za (ZhX (n:=p) p0 p1) ?_;dsimp only;generalize Xj p=P at lp⊢;simp only[XN];refine XU (n:=100) (by rw[Ju];simp;omega) (by rw[Ju];omega) (by decide) (XU (n:=100) (by rw[Ju];simp;omega) (by rw[Ju];simp) (by decide) ?_);generalize hQ:[65]++A++[32,88]++X++[32,83]++S++[32,80,99]++P++[32]=Q;have lQ:Q.length≤50:=by rw[←hQ];simp;omega
  cases c<;>cases z<;>cases i<;>cases n<;>exact XU (n:=100) (by rw[Ju];omega) (by rw[Ju];simp) (by decide) rfl
theorem Zl0 (k:Nat) (c z i n:Bool):n77_0 r59 r31 r136 (k+5) ([c,z,i,n],(Zf [c,z,i,n],())) () (bz [],((0:Int),()))=
  some (Sum.inl (bz ((if c then [67]else [])++(if z then [90]else [])++(if i then [73]else [])++(if n then [78]else [])),((4:Int),())),()):=by
 cases c<;>cases z<;>cases i<;>cases n<;>rfl
theorem Zr1 (p q r s f:List UInt8) (h:p.length+q.length+r.length+s.length+f.length≤1000):r136 ((bz p::bz q::bz r::bz s::bz f::[]),(bz [32],()))=some ((bz (p++[32]++q++[32]++r++[32]++s++[32]++f),()),()):=by
 show (bif Nat.ble 5 140737488355328&&Nat.ble (Lib.join [p,q,r,s,f] [32]).length 140737488355328 then some ((bz (Lib.join [p,q,r,s,f] [32]),()),())else none)=_
 have e:Lib.join [p,q,r,s,f] [32]=p++[32]++q++[32]++r++[32]++s++[32]++f:=by simp[Lib.join,List.intercalate,List.append_assoc]
 rw[e];generalize hz:p++[32]++q++[32]++r++[32]++s++[32]++f=z;have hl:z.length≤2000:=by rw[←hz];simp;omega
 have hb:Nat.ble z.length 140737488355328=true:=by rw[Nat.ble_eq];omega
 rw[hb];rfl
theorem ZgO (c:Tup Xi):r77 (c,())=some ((bz (KY c),()),()):=by
 unfold r77 m77;refine Za (ZbY c) ?_;cases hk:Yp c with
 |false=>unfold KY;rw[hk];rfl
 |true=>
  obtain ⟨⟨a0,a1⟩,⟨x0,x1⟩,⟨s0,s1⟩,p0,p1⟩:=Zj0 hk;obtain ⟨(a:Int),(x:Int),(s:Int),(p:Int),z,n,c,i,_⟩:=c;have a0:(0:Int)≤a:=a0;have a1:a≤(255:Int):=a1;have x0:(0:Int)≤x:=x0;have x1:x≤(255:Int):=x1;have s0:(0:Int)≤s:=s0;have s1:s≤(255:Int):=s1;have p0:(0:Int)≤p:=p0;have p1:p≤(65535:Int):=p1;unfold KY;rw[hk,Ze rfl];rw[ZK,Zd];have la:=Kt (n:=a) (by omega);have lx:=Kt (n:=x) (by omega);have ls:=Kt (n:=s) (by omega);have lp:=Kt (n:=p) (by omega);obtain ⟨k,hf⟩: ∃k,fuel=k+5:=⟨fuel-5,by have:=Z6;omega⟩;have hl:L77_0 ([c,z,i,n],(Zf [c,z,i,n],())) () (bz [],((0:Int),()))=some (Sum.inl (bz ((if c then [67]else [])++(if z then [90]else [])++(if i then [73]else [])++(if n then [78]else [])),((4:Int),())),()):=by
   unfold L77_0;rw[hf];exact Zl0 k c z i n
  refine Za hl ?_;have go: ∀f:List UInt8,f.length≤4→((r31 (a,())).bind fun u3=>bif leN ((bz [65]).size+u3.1.1.size) 4611686018427387904 then (r31 (x,())).bind fun u4=>bif leN ((bz [88]).size+u4.1.1.size) 4611686018427387904 then (r31 (s,())).bind fun u5=>
    bif leN ((bz [83]).size+u5.1.1.size) 4611686018427387904 then (r31 (p,())).bind fun u6=>bif leN ((bz [80,99]).size+u6.1.1.size) 4611686018427387904 then (r136 ((bz [65]++u3.1.1)::(bz [88]++u4.1.1)::(bz [83]++u5.1.1)::(bz [80,99]++u6.1.1)::bz f::[],(bz [32],()))).bind fun u7=>some (u7.1,())else none else none else none else none)=
    some ((bz ([65]++Xj a++[32,88]++Xj x++[32,83]++Xj s++[32,80,99]++Xj p++[32]++f),()),()):=fun f hf=>by
   refine Za (ZhW (n:=a) a0 (by omega)) ?_;refine XU (n:=100) (by rw[Ju];simp) (by rw[Ju];omega) (by decide) ?_;refine Za (ZhW (n:=x) x0 (by omega)) ?_;refine XU (n:=100) (by rw[Ju];simp) (by rw[Ju];omega) (by decide) ?_;refine Za (ZhW (n:=s) s0 (by omega)) ?_;refine XU (n:=100) (by rw[Ju];simp) (by rw[Ju];omega) (by decide) ?_;refine Za (ZhW (n:=p) p0 p1) ?_;refine XU (n:=100) (by rw[Ju];simp) (by rw[Ju];omega) (by decide) ?_;dsimp only;rw[XN,XN,XN,XN];refine Za (Zr1 _ _ _ _ _ (by simp;omega)) ?_;simp[List.append_assoc]
  show (bif (bz ((if c then [67]else [])++(if z then [90]else [])++(if i then [73]else [])++(if n then [78]else []))).toList==(bz []).toList then _ else _)=_
  rw[Zol _ [] (bz []) rfl];have g:=go (ZrW c z i n) (by cases c<;>cases z<;>cases i<;>cases n<;>decide);cases c<;>cases z<;>cases i<;>cases n<;>exact g

end Go.Proofs.YtcbdldlphpjmbaaGreatDoor.Plain
