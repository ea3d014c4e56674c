/- Plain laws of the printed functions: Str, Str2, Str3, CpuT. No condition beyond those that each lemma states. -/
import Derived.Test.YtleidaafbhojfaaGreatDoorPI
set_option linter.unusedVariables false
set_option linter.unusedSimpArgs false
namespace Go.Proofs.YtleidaafbhojfaaGreatDoor.Plain
open Go Go.Tev
def Zrz (n:Nat):List UInt8:=if n=0 then []else Lib.decDigits n
theorem Zng {n:Nat} (h:n≠0):Zrz n=Zrz (n/10)++[UInt8.ofNat (48+n%10)]:=by
 unfold Zrz
 rw[if_neg h]
 by_cases h1:n<10
 ·rw[Lib.decDigits,dif_pos h1,if_pos (show n/10=0 by omega),List.nil_append,Nat.mod_eq_of_lt h1]
 ·rw[Lib.decDigits,dif_neg h1,if_neg (show n/10≠0 by omega)]
theorem ZsI {x:Int} (h1:0≤x) (h2:x≤255):wB x=x:=by
 show IntKind.u8.wrap x=x
 rw[IntKind.wrap_u8];omega
theorem ZmH (n:Nat) (l:List UInt8):Xv [((48+n%10:Nat):Int)]++(⟨l.toArray⟩:ByteArray)=⟨(UInt8.ofNat (48+n%10)::l).toArray⟩:=by
 apply ByteArray.ext
 rw[ByteArray.data_append]
 show (List.map (fun n:Int=>UInt8.ofNat n.toNat) [((48+n%10:Nat):Int)]).toArray++l.toArray=(UInt8.ofNat (48+n%10)::l).toArray
 rw[List.map_singleton,Int.toNat_natCast,List.append_toArray,List.singleton_append]
theorem ZcE: ∀(j k:Nat) (n:Nat) (l:List UInt8),n<10^j→n≤9223372036854775807→j<k→l.length+j≤100→
  n30_0 k () () ((n:Int),((⟨l.toArray⟩:ByteArray),()))=some (Sum.inl ((0:Int),((⟨(Zrz n++l).toArray⟩:ByteArray),())),())
 |_,0,_,_,_,_,h,_=>absurd h (by omega)
 |j,k+1,n,l,hn,hm,hk,hs=>by
  show (bif ltI 0 (n:Int)then _ else some (Sum.inl ((n:Int),((⟨l.toArray⟩:ByteArray),())),()))=_
  by_cases h0:0<n
  ·rw[Zf (show (0:Int)< (n:Int) by omega),cond_true]
   have hj:0<j:=by
    rcases Nat.eq_zero_or_pos j with e|e
    ·subst e;simp at hn;omega
    ·exact e
   obtain ⟨j,rfl⟩: ∃i,j=i+1:=⟨j-1,by omega⟩
   rw[ZO (show (Xv [wB (wI (48+Int.tmod (n:Int) 10))]).size+(⟨l.toArray⟩:ByteArray).size≤4611686018427387904 by show 1+l.toArray.size≤_;rw[List.size_toArray];omega),cond_true]
   have e:wI (Int.tdiv (n:Int) 10)=((n/10:Nat):Int):=by rw[W9 (by omega),Zj (by omega) (by omega)];omega
   rw[e]
   have e2:Xv [wB (wI (48+Int.tmod (n:Int) 10))]++(⟨l.toArray⟩:ByteArray)=⟨(UInt8.ofNat (48+n%10)::l).toArray⟩:=by
    have hw:wB (wI (48+Int.tmod (n:Int) 10))=((48+n%10:Nat):Int):=by
     obtain ⟨t0,t1⟩:=ZoG (a:=(n:Int)) (n:=10) (by omega) (by omega)
     have et:Int.tmod (n:Int) 10=((n%10:Nat):Int):=by rw[Int.tmod_eq_emod_of_nonneg (by omega)];omega
     rw[et,Zj (by omega) (by omega)]
     exact ZsI (by omega) (by omega)
    rw[hw]
    exact ZmH n l
   rw[e2]
   show n30_0 k () () (((n/10:Nat):Int),((⟨(UInt8.ofNat (48+n%10)::l).toArray⟩:ByteArray),()))=_
   rw[ZcE j k (n/10) (UInt8.ofNat (48+n%10)::l) (by rw[Nat.pow_succ]at hn;omega) (by omega) (by omega) (by rw[List.length_cons];omega),Zng (n:=n) (by omega),List.append_assoc,List.singleton_append]
  ·obtain rfl:n=0:=by omega
   rw[Zp (by decide),cond_false]
   rfl
theorem ZaI (n:Nat) (hn:n≤9223372036854775807):r30 ((n:Int),())=some (((⟨(Lib.decDigits n).toArray⟩:ByteArray),()),()):=by
 unfold r30 m30
 dsimp only
 by_cases h:n=0
 ·subst h
  rw[show eqI ((0:Nat):Int) 0=true from rfl,cond_true,Lib.decDigits,dif_pos (by decide)]
  rfl
 ·rw[Zd (show¬(n:Int)=0 by omega),cond_false]
  refine Za (ZcE 20 fuel n [] (by omega) hn (by have:=ZQ;omega) (by decide)) ?_
  rw[List.append_nil]
  unfold Zrz
  rw[if_neg h]
  rfl
def KM (l:List UInt8):Nat:=l.foldl (fun x c=>10*x+(c.toNat-48)) 0
theorem ZdL {d:Nat} (h:d<10):(UInt8.ofNat (48+d)).toNat=48+d:=by
 rw[UInt8.toNat_ofNat']
 omega
theorem Zfi (n:Nat):Lib.decDigits n=if n<10 then [UInt8.ofNat (48+n)]else Lib.decDigits (n/10)++[UInt8.ofNat (48+n%10)]:=by
 rw[Lib.decDigits]
 split<;>rfl
theorem ZoM (n:Nat):KM (Lib.decDigits n)=n:=by
 induction n using Nat.strongRecOn with
 |_ n ih=>
  rw[Zfi]
  split
  ·rename_i h
   show 10*0+((UInt8.ofNat (48+n)).toNat-48)=n
   rw[ZdL h];omega
  ·rename_i h
   have:=ih (n/10) (by omega)
   unfold KM at this⊢
   rw[List.foldl_append,this]
   show 10*(n/10)+((UInt8.ofNat (48+n%10)).toNat-48)=n
   rw[ZdL (by omega)];omega
theorem Zfh (n:Nat): ∀c,c∈Lib.decDigits n→48≤c.toNat∧c.toNat≤57:=by
 induction n using Nat.strongRecOn with
 |_ n ih=>
  intro c hc
  rw[Zfi]at hc
  split at hc
  ·rename_i h
   rw[List.mem_singleton.1 hc,ZdL h];omega
  ·rcases List.mem_append.1 hc with h1|h1
   ·exact ih (n/10) (by omega) c h1
   ·rw[List.mem_singleton.1 h1,ZdL (by omega)];omega
theorem ZhS: ∀(k n:Nat),n<10^(k+1)→(Lib.decDigits n).length≤k+1∧1≤(Lib.decDigits n).length
 |0,n,h=>by
  rw[Zfi,if_pos (by simpa using h)]
  exact ⟨Nat.le_refl _,Nat.le_refl _⟩
 |k+1,n,h=>by
  rw[Zfi]
  split
  ·exact ⟨by show 1≤_;omega,Nat.le_refl _⟩
  ·obtain ⟨a,b⟩:=ZhS k (n/10) (by rw[Nat.pow_succ]at h;omega)
   rw[List.length_append,List.length_singleton]
   exact ⟨by omega,by omega⟩
def YB (c:UInt8):Bool:=decide (48≤c.toNat)&&decide (c.toNat≤57)
def Yv (x:Nat) (c:UInt8):Nat:=10*x+(c.toNat-48)
def Qu (l:List UInt8):Int:=if l=[]∨5<l.length then-1 else if l.all YB&&decide (Lib.decDigits (KM l)=l)then (KM l:Int)else-1
theorem Zqn (s:ByteArray) (i:Nat) (h:i<s.data.toList.length):bt s (i:Int)=((s.data.toList[i]).toNat:Int):=by
 unfold bt
 rw[Int.toNat_natCast,List.getD_eq_getElem?_getD,List.getElem?_eq_getElem h]
 rfl
theorem ZfL (s:ByteArray) (hs:s.data.toList.length≤5): ∀(k i x:Nat),i≤s.data.toList.length→s.data.toList.length-i<k→x<10^i→
  n104_0 r30 k (s,()) () ((x:Int),((i:Int),()))=
   some ((if (s.data.toList.drop i).all YB then Sum.inl ((((s.data.toList.drop i).foldl Yv x:Nat):Int),((s.data.toList.length:Int),()))else Sum.inr ((-1:Int),())),())
 |0,_,_,_,h,_=>absurd h (by omega)
 |k+1,i,x,hi,hk,hx=>by
  have hsz:(s.size:Int)=(s.data.toList.length:Int):=by rw[Lib.size_eq]
  have hp:10^i≤10^5:=Nat.pow_le_pow_right (by decide) (by omega)
  show (bif ltI (i:Int) (s.size:Int)then (bif leI 0 (i:Int)then (bif ltI (i:Int) (s.size:Int)then (bif ltI (bt s (i:Int)) 48 then some (Sum.inr ((-1:Int),()),())else bif leI 0 (i:Int)then (bif ltI (i:Int) (s.size:Int)then (bif ltI 57 (bt s (i:Int))then some (Sum.inr ((-1:Int),()),())else bif leI 0 (i:Int)then (bif ltI (i:Int) (s.size:Int)then
   n104_0 r30 k (s,()) () (wI (wI (wI (10*(x:Int))+wI (bt s (i:Int)))-48),(wI ((i:Int)+1),()))else none)else none)else none)else none)else none)else none)else some (Sum.inl ((x:Int),((i:Int),())),()))=_
  rw[hsz]
  by_cases hc:i<s.data.toList.length
  ·have h8:(s.data.toList[i]).toNat<256:=(s.data.toList[i]).toNat_lt
   rw[Zf (show (i:Int)< (s.data.toList.length:Int) by omega),Zo (show (0:Int)≤(i:Int) by omega),Zqn s i hc]
   simp only[cond_true]
   have ed:s.data.toList.drop i=s.data.toList[i]::s.data.toList.drop (i+1):=Kr hc
   rw[ed]
   generalize s.data.toList[i]=c at h8⊢
   by_cases h1:c.toNat<48
   ·rw[Zf (by omega),cond_true,List.all_cons,show YB c=false by unfold YB;rw[decide_eq_false (by omega),Bool.false_and]]
    simp
   ·by_cases h2:57<c.toNat
    ·rw[Zp (by omega),cond_false,Zf (by omega),cond_true,List.all_cons,show YB c=false by unfold YB;rw[decide_eq_false (show¬c.toNat≤57 by omega),Bool.and_false]]
     simp
    ·have hd:YB c=true:=by unfold YB;rw[decide_eq_true (by omega),decide_eq_true (by omega)];rfl
     have ev:wI (wI (wI (10*(x:Int))+wI (c.toNat:Int))-48)=((Yv x c:Nat):Int):=by
      unfold Yv
      rw[Zj (x:=10*(x:Int)) (by omega) (by omega),Zj (x:=(c.toNat:Int)) (by omega) (by omega),Zj (x:=10*(x:Int)+(c.toNat:Int)) (by omega) (by omega),Zj (by omega) (by omega)]
      omega
     rw[Zp (by omega),cond_false,Zp (by omega),cond_false,ev,Jd (by omega),ZfL s hs k (i+1) (Yv x c) (by omega) (by omega) (by unfold Yv;rw[Nat.pow_succ];omega),List.all_cons,hd,Bool.true_and,List.foldl_cons]
  ·obtain rfl:i=s.data.toList.length:=by omega
   rw[Zp (by omega),cond_false,List.drop_length]
   rfl
theorem ZpP (a:ByteArray) (l:List UInt8) (b:ByteArray) (h:b.data.toList=l):(a.toList==b.toList)=decide (a.data.toList=l):=by
 rw[ByteArray.toList_eq,ByteArray.toList_eq,h]
 by_cases e:a.data.toList=l
 ·rw[decide_eq_true e,e,beq_self_eq_true]
 ·rw[decide_eq_false e];exact beq_eq_false_iff_ne.2 e
theorem Zpn (s:ByteArray):r104 (s,())=some ((Qu s.data.toList,()),()):=by
 unfold r104 m104 Qu
 dsimp only
 have hsz:(s.size:Int)=(s.data.toList.length:Int):=by rw[Lib.size_eq]
 have e0:(s.toList==(bz []).toList)=decide (s.data.toList=[]):=ZpP s [] (bz []) rfl
 rw[e0,hsz]
 by_cases h0:s.data.toList=[]
 ·rw[decide_eq_true h0,cond_true,if_pos (.inl h0)]
 rw[decide_eq_false h0,cond_false]
 by_cases h5:5<s.data.toList.length
 ·rw[Zf (show (5:Int)< (s.data.toList.length:Int) by omega),cond_true,if_pos (.inr h5)]
 rw[Zp (show¬(5:Int)< (s.data.toList.length:Int) by omega),cond_false,if_neg (by rintro (h|h);exact h0 h;exact h5 h)]
 have hl:=ZfL s (by omega) fuel 0 0 (Nat.zero_le _) (by have:=ZQ;omega) (by decide)
 rw[List.drop_zero]at hl
 refine Za hl ?_
 cases hd:s.data.toList.all YB with
 |false=>rw[if_neg (by simp),Bool.false_and,if_neg (by simp)];rfl
 |true=>
  rw[if_pos rfl,Bool.true_and]
  show ((r30 (((s.data.toList.foldl Yv 0:Nat):Int),())).bind fun r2=>bif (!(r2.1.1.toList==s.toList))then some ((-(1:Int),()),())else some (((((s.data.toList.foldl Yv 0:Nat):Int)),()),()))=_
  have hv:s.data.toList.foldl Yv 0=KM s.data.toList:=rfl
  have hb: ∀(l:List UInt8) (x:Nat),l.foldl Yv x≤(x+1)*300^l.length:=by
   intro l
   induction l with
   |nil=>intro x;simp
   |cons c l ih=>
    intro x
    have h8:c.toNat<256:=c.toNat_lt
    rw[List.foldl_cons,List.length_cons,Nat.pow_succ]
    refine Nat.le_trans (ih _) ?_
    have:Yv x c+1≤(x+1)*300:=by unfold Yv;omega
    calc (Yv x c+1)*300^l.length≤((x+1)*300)*300^l.length:=Nat.mul_le_mul_right _ this
     _=(x+1)*(300^l.length*300):=by rw[Nat.mul_assoc,Nat.mul_comm 300]
  have hbound:KM s.data.toList≤9223372036854775807:=by
   have h1:=hb s.data.toList 0
   rw[hv]at h1
   have h2:300^s.data.toList.length≤300^5:=Nat.pow_le_pow_right (by decide) (by omega)
   omega
  rw[hv]
  refine Za (ZaI _ hbound) ?_
  have e1:((⟨(Lib.decDigits (KM s.data.toList)).toArray⟩:ByteArray).toList==s.toList)=decide (Lib.decDigits (KM s.data.toList)=s.data.toList):=ZpP _ _ s rfl
  show (bif (!((⟨(Lib.decDigits (KM s.data.toList)).toArray⟩:ByteArray).toList==s.toList))then some ((-(1:Int),()),())else some ((((KM s.data.toList:Nat):Int),()),()))=_
  rw[e1]
  by_cases hd2:Lib.decDigits (KM s.data.toList)=s.data.toList
  ·rw[decide_eq_true hd2,if_pos rfl];rfl
  ·rw[decide_eq_false hd2,if_neg (by simp)];rfl
theorem Zpy {n:Nat} (h:n<100000):Qu (Lib.decDigits n)=n:=by
 obtain ⟨a,b⟩:=ZhS 4 n h
 unfold Qu
 rw[if_neg (by rintro (e|e);rw[e]at b;exact absurd b (by decide);omega)]
 have hd:(Lib.decDigits n).all YB=true:=List.all_eq_true.2 fun c hc=>by
  obtain ⟨h1,h2⟩:=Zfh n c hc
  unfold YB
  rw[decide_eq_true h1,decide_eq_true h2];rfl
 rw[hd,ZoM,decide_eq_true rfl]
 rfl
theorem Zqd: ∀(l:List UInt8) (x:Nat),l.all YB=true→l.foldl Yv x< (x+1)*10^l.length
 | [],x,_=>by simp
 |c::l,x,h=>by
  rw[List.all_cons,Bool.and_eq_true]at h
  obtain ⟨h1,h2⟩:=h
  unfold YB at h1
  rw[Bool.and_eq_true,decide_eq_true_iff,decide_eq_true_iff]at h1
  rw[List.foldl_cons,List.length_cons,Nat.pow_succ]
  refine Nat.lt_of_lt_of_le (Zqd l _ h2) ?_
  have:Yv x c+1≤(x+1)*10:=by unfold Yv;omega
  calc (Yv x c+1)*10^l.length≤((x+1)*10)*10^l.length:=Nat.mul_le_mul_right _ this
   _=(x+1)*(10^l.length*10):=by rw[Nat.mul_assoc,Nat.mul_comm 10]
theorem Zjp {l:List UInt8} (h:Qu l≠ -1): ∃n:Nat,n<100000∧l=Lib.decDigits n∧Qu l=n:=by
 unfold Qu at h⊢
 split at h
 ·exact absurd rfl h
 ·rename_i h5
  split at h
  ·rename_i hd
   rw[if_neg h5,if_pos hd]
   rw[Bool.and_eq_true,decide_eq_true_iff]at hd
   have h1:=Zqd l 0 hd.1
   have h2:10^l.length≤10^5:=Nat.pow_le_pow_right (by decide) (by rcases Nat.lt_or_ge 5 l.length with e|e;exact absurd (.inr e) h5;exact e)
   exact ⟨KM l,by show l.foldl Yv 0<100000;omega,hd.2.symm,rfl⟩
  ·exact absurd rfl h
theorem ZnO {l:List UInt8}:Qu l= -1↔ ∀n:Nat,n<100000→l≠Lib.decDigits n:=by
 constructor
 ·rintro h n hn rfl
  rw[Zpy hn]at h
  omega
 ·intro h
  rcases Decidable.em (Qu l= -1)with e|e
  ·exact e
  ·obtain ⟨n,a,b,_⟩:=Zjp e
   exact absurd b (h n a)
def JX:List UInt8→Option (List UInt8×List UInt8)
 | []=>none
 |c::r=>if c=32 then some ([],r)else (JX r).map fun p=>(c::p.1,p.2)
def ZqR (s:ByteArray):ByteArray×Int×Bool×Unit:=match JX s.data.toList with
 |none=>(s,-1,true,())
 |some p=>(⟨p.1.toArray⟩,Qu p.2,leI 0 (Qu p.2),())
theorem ZsO (s:ByteArray) (i j:Nat):(s.extract i j).data.toList=(s.data.toList.take j).drop i:=by
 rw[ByteArray.data_extract,Array.toList_extract,List.extract_eq_take_drop,List.drop_take]
theorem Zex (s:ByteArray) (hs:s.data.toList.length≤4000000): ∀(k i:Nat),i≤s.data.toList.length→s.data.toList.length-i<k→
  n27_0 r104 k (s,()) () ((i:Int),())=some (match JX (s.data.toList.drop i)with
   |none=>(Sum.inl ((s.data.toList.length:Int),()),())
   |some p=>(Sum.inr ((⟨(s.data.toList.take i++p.1).toArray⟩:ByteArray),(Qu p.2,(leI 0 (Qu p.2),()))),()))
 |0,_,_,h=>absurd h (by omega)
 |k+1,i,hi,hk=>by
  have hsz:(s.size:Int)=(s.data.toList.length:Int):=by rw[Lib.size_eq]
  have hsn:s.size=s.data.toList.length:=Lib.size_eq s
  show (bif ltI (i:Int) (s.size:Int)then (bif leI 0 (i:Int)then (bif ltI (i:Int) (s.size:Int)then (bif eqI (bt s (i:Int)) 32 then (bif leI 0 (wI ((i:Int)+1))then (bif leI (wI ((i:Int)+1)) (s.size:Int)then
   ((r104 (ByteArray.extract s (Int.toNat (wI ((i:Int)+1))) s.size,())).bind fun r0=>bif leI 0 (i:Int)then (bif leI (i:Int) (s.size:Int)then some (Sum.inr (ByteArray.extract s 0 (Int.toNat (i:Int)),(r0.1.1,(leI 0 r0.1.1,()))),())else none)else none)else none)else none)
   else n27_0 r104 k (s,()) () (wI ((i:Int)+1),()))else none)else none)else some (Sum.inl ((i:Int),()),()))=_
  rw[hsz]
  by_cases hc:i<s.data.toList.length
  ·rw[Zf (show (i:Int)< (s.data.toList.length:Int) by omega),Zo (show (0:Int)≤(i:Int) by omega),Zqn s i hc,Jd (by omega),Zo (show (0:Int)≤((i+1:Nat):Int) by omega),Zo (show ((i+1:Nat):Int)≤(s.data.toList.length:Int) by omega),Zo (show (i:Int)≤(s.data.toList.length:Int) by omega)]
   simp only[cond_true]
   have ed:s.data.toList.drop i=s.data.toList[i]::s.data.toList.drop (i+1):=Kr hc
   rw[ed]
   by_cases h32:s.data.toList[i]=32
   ·rw[h32,show eqI (((32:UInt8).toNat:Nat):Int) 32=true from rfl,cond_true,Zpn]
    simp only[JX,if_true,Option.bind_some]
    have e1:(s.extract (Int.toNat ((i+1:Nat):Int)) s.size).data.toList=s.data.toList.drop (i+1):=by
     rw[ZsO,Int.toNat_natCast,hsn,List.take_length]
    have e2:s.extract 0 (Int.toNat (i:Int))=⟨(s.data.toList.take i++[]).toArray⟩:=by
     apply Go.WideShapes.bytes_inj
     rw[ZsO,Int.toNat_natCast,List.append_nil,List.drop_zero]
    rw[e1,e2]
   ·have hne:eqI ((s.data.toList[i]).toNat:Int) 32=false:=Zd fun e=>h32 (UInt8.toNat_inj.1 (by show _=32;omega))
    rw[hne,cond_false,Zex s hs k (i+1) (by omega) (by omega)]
    simp only[JX,if_neg h32]
    cases JX (s.data.toList.drop (i+1))with
    |none=>rfl
    |some p=>
     simp only[Option.map_some]
     have e3:s.data.toList.take (i+1)++p.1=s.data.toList.take i++s.data.toList[i]::p.1:=by
      rw[List.take_succ_eq_append_getElem hc,List.append_assoc,List.singleton_append]
     rw[e3]
  ·obtain rfl:i=s.data.toList.length:=by omega
   rw[Zp (by omega),cond_false,List.drop_length]
   rfl
theorem ZnD (s:ByteArray) (hs:s.data.toList.length≤4000000):r27 (s,())=some ((ZqR s,()):(ByteArray×Int×Bool×Unit)×Unit):=by
 unfold r27 m27 ZqR
 have h:=Zex s hs fuel 0 (Nat.zero_le _) (by have:=ZQ;omega)
 rw[List.drop_zero,List.take_zero]at h
 refine Za h ?_
 cases JX s.data.toList with
 |none=>rfl
 |some p=>rfl
theorem pre1 (b:UInt8) (l:List UInt8):([32]:List UInt8).isPrefixOf (b::l)=decide (b=32):=by
 by_cases h:b=32
 ·subst h;simp[List.isPrefixOf]
 ·rw[decide_eq_false h]
  have:((32:UInt8)==b)=false:=beq_eq_false_iff_ne.2 (Ne.symm h)
  simp[List.isPrefixOf,this]
theorem Zk7: ∀l:List UInt8,(JX l=none∧Lib.index l [32]= -1)∨ ∃a b,JX l=some (a,b)∧l=a++32::b∧Lib.index l [32]=a.length
 | []=> .inl ⟨rfl,rfl⟩
 |c::l=>by
  by_cases h:c=32
  ·subst h
   refine .inr ⟨[],l,by simp[JX],rfl,?_⟩
   unfold Lib.index
   rw[pre1,decide_eq_true rfl,if_pos rfl]
   rfl
  ·have e:Lib.index (c::l) [32]=if Lib.index l [32]== -1 then-1 else Lib.index l [32]+1:=by
    conv=>lhs;unfold Lib.index
    rw[pre1,decide_eq_false h,if_neg (by simp)]
   rcases Zk7 l with ⟨h1,h2⟩| ⟨a,b,h1,h2,h3⟩
   ·refine .inl ⟨by simp[JX,h,h1],?_⟩
    rw[e,h2]
    decide
   ·refine .inr ⟨c::a,b,by simp[JX,h,h1],by rw[h2];rfl,?_⟩
    rw[e,h3,if_neg (show¬(((a.length:Nat):Int)== -1)=true by rw[beq_iff_eq];omega),List.length_cons]
    omega
theorem ZiR: ∀(w b:List UInt8),¬(32:UInt8)∈w→JX (w++32::b)=some (w,b)
 | [],b,_=>by simp[JX]
 |c::w,b,h=>by
  have hc: ¬c=32:=fun e=>h (by rw[e];exact List.mem_cons_self)
  have hw: ¬(32:UInt8)∈w:=fun e=>h (List.mem_cons_of_mem _ e)
  simp[JX,hc,ZiR w b hw]
theorem Zn5 (w l:List UInt8) (hw: ¬(32:UInt8)∈w):(Lib.hasPrefix l (w++[32])=true∧ ∃b,JX l=some (w,b)∧Lib.trimPrefix l (w++[32])=b)∨
  (Lib.hasPrefix l (w++[32])=false∧ ∀b,JX l≠some (w,b)):=by
 cases h:Lib.hasPrefix l (w++[32])
 ·refine .inr ⟨rfl,fun b hb=> ?_⟩
  rcases Zk7 l with ⟨h1,_⟩| ⟨a,b',h1,h2,_⟩
  ·rw[h1]at hb;cases hb
  ·rw[h1]at hb
   cases hb
   have:Lib.hasPrefix l (w++[32])=true:=by
    unfold Lib.hasPrefix
    rw[List.isPrefixOf_iff_prefix]
    exact ⟨b,by rw[h2];simp⟩
   rw[this]at h;cases h
 ·refine .inl ⟨rfl,?_⟩
  have h':=h
  unfold Lib.hasPrefix at h
  rw[List.isPrefixOf_iff_prefix]at h
  obtain ⟨b,rfl⟩:=h
  refine ⟨b,?_,?_⟩
  ·have e:w++[32]++b=w++32::b:=by simp
   rw[e];exact ZiR w b hw
  ·unfold Lib.trimPrefix
   rw[h',if_pos rfl,List.drop_left]
theorem Zfg: ∀(l:List UInt8) (acc:Nat),l.all YB=true→Lib.decFrom acc l=some (l.foldl Yv acc)
 | [],_,_=>rfl
 |c::l,acc,h=>by
  rw[List.all_cons,Bool.and_eq_true]at h
  obtain ⟨h1,h2⟩:=h
  have hd:48≤c.toNat∧c.toNat≤57:=by
   unfold YB at h1
   rw[Bool.and_eq_true,decide_eq_true_iff,decide_eq_true_iff]at h1
   exact h1
  rw[Lib.decFrom,Lib.digitVal,if_pos hd]
  show Lib.decFrom (acc*10+(c.toNat-48)) l=_
  rw[Zfg l _ h2,List.foldl_cons,Yv,Nat.mul_comm]
theorem Zne (n:Nat):(Lib.decDigits n).all YB=true:=List.all_eq_true.2 fun c hc=>by
 obtain ⟨h1,h2⟩:=Zfh n c hc
 unfold YB
 rw[decide_eq_true h1,decide_eq_true h2];rfl
theorem ZoY {n:Nat} (h:n<100000):Lib.atoiAll (Lib.decDigits n)= .ok (n:Int):=by
 obtain ⟨a,b⟩:=ZhS 4 n h
 rw[Lib.atoiAll_short _ (by omega)]
 have hv:Lib.decFrom 0 (Lib.decDigits n)=some n:=by
  rw[Zfg _ _ (Zne n)]
  exact congrArg some (ZoM n)
 have hd:=Zfh n
 generalize Lib.decDigits n=l at a b hv hd⊢
 cases l with
 |nil=>simp at b
 |cons c l=>
  obtain ⟨h1,h2⟩:=hd c List.mem_cons_self
  have e1:(c==45)=false:=by rw[beq_eq_false_iff_ne];rintro rfl;simp at h1
  have e2:(c==43)=false:=by rw[beq_eq_false_iff_ne];rintro rfl;simp at h1
  rw[Lib.atoi,e1,e2,if_neg (by simp),if_neg (by simp),Lib.decNat,List.isEmpty_cons,if_neg (by simp),hv]
  rfl
theorem Zic (n:Nat):Lib.itoa (n:Int)=Lib.decDigits n:=by
 unfold Lib.itoa
 rw[if_neg (by omega),Int.toNat_natCast]
theorem V3 (a b:List UInt8):bz a++bz b=bz (a++b):=by
 apply ByteArray.ext
 rw[ByteArray.data_append]
 exact List.append_toArray ..
theorem Jw (a:List UInt8):ByteArray.size (bz a)=a.length:=by
 show Array.size ⟨a⟩=_
 rfl
theorem Zaz (n:Nat) (hn:n≤9223372036854775807):r44 ((n:Int),())=some ((bz (Lib.decDigits n),()),()):=by
 unfold r44 m44
 have h:r122 ((n:Int),())=some ((bz (Lib.decDigits n),()),()):=by
  show (bif decide (-9223372036854775808≤(n:Int))&&decide ((n:Int)≤9223372036854775807)then some ((bz (Lib.itoa (n:Int)),()),())else none)=_
  rw[decide_eq_true (by omega),decide_eq_true (by omega),Zic]
  rfl
 exact Za h rfl
def Y5 (n:Int):List UInt8:=Lib.decDigits n.toNat
theorem WG {n:Int} (h1:n≤65535):(Y5 n).length≤5:=(ZhS 4 n.toNat (by omega)).1
def ZsP (a b c d:Bool):List UInt8:=match a,b,c,d with
 |false,false,false,false=>[45]
 |a,b,c,d=>(if a then [67]else [])++(if b then [90]else [])++(if c then [73]else [])++(if d then [78]else [])
def Vs (c:Tup Yr):List UInt8:=if Yj c then [65]++Y5 c.1++[32,88]++Y5 c.2.1++[32,83]++Y5 c.2.2.1++[32,80,99]++Y5 c.2.2.2.1++[32]++ZsP c.2.2.2.2.2.2.1 c.2.2.2.2.1 c.2.2.2.2.2.2.2.1 c.2.2.2.2.2.1 else []
theorem Znd {c:Tup Yr} (h:Yj c=true):(0≤c.1∧c.1≤255)∧(0≤c.2.1∧c.2.1≤255)∧(0≤c.2.2.1∧c.2.2.1≤255)∧(0≤c.2.2.2.1∧c.2.2.2.1≤65535):=by
 unfold Yj at h
 simp only[Bool.and_eq_true,JS]at h
 exact h
theorem Zj7 (c:Tup Yr):decide (Vs c=[])= !Yj c:=by
 unfold Vs
 cases Yj c with
 |false=>rfl
 |true=>simp
theorem ZhR {n:Int} (h0:0≤n) (h1:n≤65535):r30 (n,())=some ((bz (Y5 n),()),()):=by
 obtain ⟨k,rfl⟩:=Int.eq_ofNat_of_zero_le h0
 exact ZaI k (by omega)
theorem ZhQ {n:Int} (h0:0≤n) (h1:n≤65535):r44 (n,())=some ((bz (Y5 n),()),()):=by
 obtain ⟨k,rfl⟩:=Int.eq_ofNat_of_zero_le h0
 exact Zaz k (by omega)
theorem XP {A:Type} {a b n:Nat} {x y:Option A} {r:A} (h:a≤n) (hb:b≤n) (hn:n+n≤4611686018427387904) (hx:x=some r):(bif leN (a+b) 4611686018427387904 then x else y)=some r:=by
 rw[ZO (by omega),cond_true,hx]
theorem ZgL (c:Tup Yr):r97 (c,())=some ((bz (Vs c),()),()):=by
 unfold r97 m97
 refine Za (Zb4 c) ?_
 cases hk:Yj c with
 |false=>unfold Vs;rw[hk];rfl
 |true=>
  obtain ⟨⟨a0,a1⟩,⟨x0,x1⟩,⟨s0,s1⟩,p0,p1⟩:=Znd hk
  obtain ⟨(a:Int),(x:Int),(s:Int),(p:Int),z,n,c,i,_⟩:=c
  have a0:(0:Int)≤a:=a0
  have a1:a≤(255:Int):=a1
  have x0:(0:Int)≤x:=x0
  have x1:x≤(255:Int):=x1
  have s0:(0:Int)≤s:=s0
  have s1:s≤(255:Int):=s1
  have p0:(0:Int)≤p:=p0
  have p1:p≤(65535:Int):=p1
  unfold Vs
  rw[hk,if_pos rfl]
  rw[Bool.not_true,cond_false]
  have la:=WG (n:=a) (by omega)
  have lx:=WG (n:=x) (by omega)
  have ls:=WG (n:=s) (by omega)
  have lp:=WG (n:=p) (by omega)
  refine Za (ZhR (n:=a) a0 (by omega)) ?_
  dsimp only
  generalize Y5 a=A at la⊢
  rw[V3,V3]
  refine XP (n:=100) (by rw[Jw];simp) (by rw[Jw];omega) (by decide) (XP (n:=100) (by rw[Jw];simp;omega) (by rw[Jw];simp) (by decide) ?_)
  refine Za (ZhR (n:=x) x0 (by omega)) ?_
  dsimp only
  generalize Y5 x=X at lx⊢
  simp only[V3]
  refine XP (n:=100) (by rw[Jw];simp;omega) (by rw[Jw];omega) (by decide) (XP (n:=100) (by rw[Jw];simp;omega) (by rw[Jw];simp) (by decide) ?_)
  refine Za (ZhR (n:=s) s0 (by omega)) ?_
  dsimp only
  generalize Y5 s=S at ls⊢
  simp only[V3]
  refine XP (n:=100) (by rw[Jw];simp;omega) (by rw[Jw];omega) (by decide) (XP (n:=100) (by rw[Jw];simp;omega) (by rw[Jw];simp) (by decide) ?_)
  refine Za (ZhR (n:=p) p0 p1) ?_
  dsimp only
  generalize Y5 p=P at lp⊢
  simp only[V3]
  refine XP (n:=100) (by rw[Jw];simp;omega) (by rw[Jw];omega) (by decide) (XP (n:=100) (by rw[Jw];simp;omega) (by rw[Jw];simp) (by decide) ?_)
  generalize hQ:[65]++A++[32,88]++X++[32,83]++S++[32,80,99]++P++[32]=Q
  have lQ:Q.length≤50:=by rw[←hQ];simp;omega
  cases c<;>cases z<;>cases i<;>cases n<;>exact XP (n:=100) (by rw[Jw];omega) (by rw[Jw];simp) (by decide) rfl
theorem Zl2 (k:Nat) (c z i n:Bool):n124_0 r82 r44 r204 (k+5) ([c,z,i,n],(Zb [c,z,i,n],())) () (bz [],((0:Int),()))=
  some (Sum.inl (bz ((if c then [67]else [])++(if z then [90]else [])++(if i then [73]else [])++(if n then [78]else [])),((4:Int),())),()):=by
 cases c<;>cases z<;>cases i<;>cases n<;>rfl
theorem Zsq (p q r s f:List UInt8) (h:p.length+q.length+r.length+s.length+f.length≤1000):r204 ((bz p::bz q::bz r::bz s::bz f::[]),(bz [32],()))=some ((bz (p++[32]++q++[32]++r++[32]++s++[32]++f),()),()):=by
 show (bif Nat.ble 5 140737488355328&&Nat.ble (Lib.join [p,q,r,s,f] [32]).length 140737488355328 then some ((bz (Lib.join [p,q,r,s,f] [32]),()),())else none)=_
 have e:Lib.join [p,q,r,s,f] [32]=p++[32]++q++[32]++r++[32]++s++[32]++f:=by simp[Lib.join,List.intercalate,List.append_assoc]
 rw[e]
 generalize hz:p++[32]++q++[32]++r++[32]++s++[32]++f=z
 have hl:z.length≤2000:=by rw[←hz];simp;omega
 have hb:Nat.ble z.length 140737488355328=true:=by rw[Nat.ble_eq];omega
 rw[hb]
 rfl
theorem ZgB (c:Tup Yr):r124 (c,())=some ((bz (Vs c),()),()):=by
 unfold r124 m124
 refine Za (ZbR c) ?_
 cases hk:Yj c with
 |false=>unfold Vs;rw[hk];rfl
 |true=>
  obtain ⟨⟨a0,a1⟩,⟨x0,x1⟩,⟨s0,s1⟩,p0,p1⟩:=Znd hk
  obtain ⟨(a:Int),(x:Int),(s:Int),(p:Int),z,n,c,i,_⟩:=c
  have a0:(0:Int)≤a:=a0
  have a1:a≤(255:Int):=a1
  have x0:(0:Int)≤x:=x0
  have x1:x≤(255:Int):=x1
  have s0:(0:Int)≤s:=s0
  have s1:s≤(255:Int):=s1
  have p0:(0:Int)≤p:=p0
  have p1:p≤(65535:Int):=p1
  unfold Vs
  rw[hk,if_pos rfl]
  rw[Bool.not_true,cond_false]
  have la:=WG (n:=a) (by omega)
  have lx:=WG (n:=x) (by omega)
  have ls:=WG (n:=s) (by omega)
  have lp:=WG (n:=p) (by omega)
  obtain ⟨k,hf⟩: ∃k,fuel=k+5:=⟨fuel-5,by have:=ZQ;omega⟩
  have hl:L124_0 ([c,z,i,n],(Zb [c,z,i,n],())) () (bz [],((0:Int),()))=some (Sum.inl (bz ((if c then [67]else [])++(if z then [90]else [])++(if i then [73]else [])++(if n then [78]else [])),((4:Int),())),()):=by
   unfold L124_0
   rw[hf]
   exact Zl2 k c z i n
  refine Za hl ?_
  have go: ∀f:List UInt8,f.length≤4→((r44 (a,())).bind fun u3=>bif leN ((bz [65]).size+u3.1.1.size) 4611686018427387904 then (r44 (x,())).bind fun u4=>bif leN ((bz [88]).size+u4.1.1.size) 4611686018427387904 then (r44 (s,())).bind fun u5=>
    bif leN ((bz [83]).size+u5.1.1.size) 4611686018427387904 then (r44 (p,())).bind fun u6=>bif leN ((bz [80,99]).size+u6.1.1.size) 4611686018427387904 then (r204 ((bz [65]++u3.1.1)::(bz [88]++u4.1.1)::(bz [83]++u5.1.1)::(bz [80,99]++u6.1.1)::bz f::[],(bz [32],()))).bind fun u7=>some (u7.1,())else none else none else none else none)=
    some ((bz ([65]++Y5 a++[32,88]++Y5 x++[32,83]++Y5 s++[32,80,99]++Y5 p++[32]++f),()),()):=fun f hf=>by
   refine Za (ZhQ (n:=a) a0 (by omega)) ?_
   refine XP (n:=100) (by rw[Jw];simp) (by rw[Jw];omega) (by decide) ?_
   refine Za (ZhQ (n:=x) x0 (by omega)) ?_
   refine XP (n:=100) (by rw[Jw];simp) (by rw[Jw];omega) (by decide) ?_
   refine Za (ZhQ (n:=s) s0 (by omega)) ?_
   refine XP (n:=100) (by rw[Jw];simp) (by rw[Jw];omega) (by decide) ?_
   refine Za (ZhQ (n:=p) p0 p1) ?_
   refine XP (n:=100) (by rw[Jw];simp) (by rw[Jw];omega) (by decide) ?_
   dsimp only
   rw[V3,V3,V3,V3]
   refine Za (Zsq _ _ _ _ _ (by simp;omega)) ?_
   simp[List.append_assoc]
  show (bif (bz ((if c then [67]else [])++(if z then [90]else [])++(if i then [73]else [])++(if n then [78]else []))).toList==(bz []).toList then _ else _)=_
  rw[ZpP _ [] (bz []) rfl]
  have g:=go (ZsP c z i n) (by cases c<;>cases z<;>cases i<;>cases n<;>decide)
  cases c<;>cases z<;>cases i<;>cases n<;>exact g

end Go.Proofs.YtleidaafbhojfaaGreatDoor.Plain
