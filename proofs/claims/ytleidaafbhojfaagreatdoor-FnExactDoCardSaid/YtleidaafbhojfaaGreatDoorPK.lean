/- Plain laws of the printed functions: Str, Str2, Str3, CpuT. No condition beyond those that each lemma states. -/
import Derived.Test.YtleidaafbhojfaaGreatDoorPI
set_option linter.unusedVariables false
set_option linter.unusedSimpArgs false
namespace Go.Proofs.YtleidaafbhojfaaGreatDoor.Plain
open Go Go.Tev
def digs (n:Nat):List UInt8:=if n=0 then []else Lib.decDigits n
theorem Zt6 {n:Nat} (h:n≠0):digs n=digs (n/10)++[UInt8.ofNat (48+n%10)]:=by
 unfold digs
 rw[if_neg h]
 by_cases h1:n<10
 ·rw[Lib.decDigits,dif_pos h1,if_pos (show n/10=0 by omega),List.nil_append,Nat.mod_eq_of_lt h1]
 ·rw[Lib.decDigits,dif_neg h1,if_neg (show n/10≠0 by omega)]
theorem ZyR {x:Int} (h1:0≤x) (h2:x≤255):wB x=x:=by
 show IntKind.u8.wrap x=x
 rw[IntKind.wrap_u8];omega
theorem Ztz (n:Nat) (l:List UInt8):Zj0 [((48+n%10:Nat):Int)]++(⟨l.toArray⟩:ByteArray)=⟨(UInt8.ofNat (48+n%10)::l).toArray⟩:=by
 apply ByteArray.ext
 rw[ByteArray.data_append]
 show (List.map (fun n:Int=>UInt8.ofNat n.toNat) [((48+n%10:Nat):Int)]).toArray++l.toArray=(UInt8.ofNat (48+n%10)::l).toArray
 rw[List.map_singleton,Int.toNat_natCast,List.append_toArray,List.singleton_append]
theorem ZhP: ∀(j k:Nat) (n:Nat) (l:List UInt8),n<10^j→n≤9223372036854775807→j<k→l.length+j≤100→
  n30_0 k () () ((n:Int),((⟨l.toArray⟩:ByteArray),()))=some (Sum.inl ((0:Int),((⟨(digs n++l).toArray⟩:ByteArray),())),())
 |_,0,_,_,_,_,h,_=>absurd h (by omega)
 |j,k+1,n,l,hn,hm,hk,hs=>by
  show (bif ltI 0 (n:Int)then _ else some (Sum.inl ((n:Int),((⟨l.toArray⟩:ByteArray),())),()))=_
  by_cases h0:0<n
  ·rw[Zaj (show (0:Int)< (n:Int) by omega),cond_true]
   have hj:0<j:=by
    rcases Nat.eq_zero_or_pos j with e|e
    ·subst e;simp at hn;omega
    ·exact e
   obtain ⟨j,rfl⟩: ∃i,j=i+1:=⟨j-1,by omega⟩
   rw[Zbn (show (Zj0 [wB (wI (48+Int.tmod (n:Int) 10))]).size+(⟨l.toArray⟩:ByteArray).size≤4611686018427387904 by show 1+l.toArray.size≤_;rw[List.size_toArray];omega),cond_true]
   have e:wI (Int.tdiv (n:Int) 10)=((n/10:Nat):Int):=by rw[Zir (by omega),Zas (by omega) (by omega)];omega
   rw[e]
   have e2:Zj0 [wB (wI (48+Int.tmod (n:Int) 10))]++(⟨l.toArray⟩:ByteArray)=⟨(UInt8.ofNat (48+n%10)::l).toArray⟩:=by
    have hw:wB (wI (48+Int.tmod (n:Int) 10))=((48+n%10:Nat):Int):=by
     obtain ⟨t0,t1⟩:=Zyw (a:=(n:Int)) (n:=10) (by omega) (by omega)
     have et:Int.tmod (n:Int) 10=((n%10:Nat):Int):=by rw[Int.tmod_eq_emod_of_nonneg (by omega)];omega
     rw[et,Zas (by omega) (by omega)]
     exact ZyR (by omega) (by omega)
    rw[hw]
    exact Ztz n l
   rw[e2]
   show n30_0 k () () (((n/10:Nat):Int),((⟨(UInt8.ofNat (48+n%10)::l).toArray⟩:ByteArray),()))=_
   rw[ZhP j k (n/10) (UInt8.ofNat (48+n%10)::l) (by rw[Nat.pow_succ]at hn;omega) (by omega) (by omega) (by rw[List.length_cons];omega),Zt6 (n:=n) (by omega),List.append_assoc,List.singleton_append]
  ·obtain rfl:n=0:=by omega
   rw[Zam (by decide),cond_false]
   rfl
theorem Zeo (n:Nat) (hn:n≤9223372036854775807):r30 ((n:Int),())=some (((⟨(Lib.decDigits n).toArray⟩:ByteArray),()),()):=by
 unfold r30 m30
 dsimp only
 by_cases h:n=0
 ·subst h
  rw[show eqI ((0:Nat):Int) 0=true from rfl,cond_true,Lib.decDigits,dif_pos (by decide)]
  rfl
 ·rw[Zag (show¬(n:Int)=0 by omega),cond_false]
  refine Zaa (ZhP 20 fuel n [] (by omega) hn (by have:=Zaq;omega) (by decide)) ?_
  rw[List.append_nil]
  unfold digs
  rw[if_neg h]
  rfl
def ZkJ (l:List UInt8):Nat:=l.foldl (fun x c=>10*x+(c.toNat-48)) 0
theorem Zjo {d:Nat} (h:d<10):(UInt8.ofNat (48+d)).toNat=48+d:=by
 rw[UInt8.toNat_ofNat']
 omega
theorem Zlg (n:Nat):Lib.decDigits n=if n<10 then [UInt8.ofNat (48+n)]else Lib.decDigits (n/10)++[UInt8.ofNat (48+n%10)]:=by
 rw[Lib.decDigits]
 split<;>rfl
theorem Zvx (n:Nat):ZkJ (Lib.decDigits n)=n:=by
 induction n using Nat.strongRecOn with
 |_ n ih=>
  rw[Zlg]
  split
  ·rename_i h
   show 10*0+((UInt8.ofNat (48+n)).toNat-48)=n
   rw[Zjo h];omega
  ·rename_i h
   have:=ih (n/10) (by omega)
   unfold ZkJ at this⊢
   rw[List.foldl_append,this]
   show 10*(n/10)+((UInt8.ofNat (48+n%10)).toNat-48)=n
   rw[Zjo (by omega)];omega
theorem Zlf (n:Nat): ∀c,c∈Lib.decDigits n→48≤c.toNat∧c.toNat≤57:=by
 induction n using Nat.strongRecOn with
 |_ n ih=>
  intro c hc
  rw[Zlg]at hc
  split at hc
  ·rename_i h
   rw[List.mem_singleton.1 hc,Zjo h];omega
  ·rcases List.mem_append.1 hc with h1|h1
   ·exact ih (n/10) (by omega) c h1
   ·rw[List.mem_singleton.1 h1,Zjo (by omega)];omega
theorem Zn3: ∀(k n:Nat),n<10^(k+1)→(Lib.decDigits n).length≤k+1∧1≤(Lib.decDigits n).length
 |0,n,h=>by
  rw[Zlg,if_pos (by simpa using h)]
  exact ⟨Nat.le_refl _,Nat.le_refl _⟩
 |k+1,n,h=>by
  rw[Zlg]
  split
  ·exact ⟨by show 1≤_;omega,Nat.le_refl _⟩
  ·obtain ⟨a,b⟩:=Zn3 k (n/10) (by rw[Nat.pow_succ]at h;omega)
   rw[List.length_append,List.length_singleton]
   exact ⟨by omega,by omega⟩
def ZgM (c:UInt8):Bool:=decide (48≤c.toNat)&&decide (c.toNat≤57)
def Zgb (x:Nat) (c:UInt8):Nat:=10*x+(c.toNat-48)
def numA (l:List UInt8):Int:=if l=[]∨5<l.length then-1 else if l.all ZgM&&decide (Lib.decDigits (ZkJ l)=l)then (ZkJ l:Int)else-1
theorem Zw8 (s:ByteArray) (i:Nat) (h:i<s.data.toList.length):bt s (i:Int)=((s.data.toList[i]).toNat:Int):=by
 unfold bt
 rw[Int.toNat_natCast,List.getD_eq_getElem?_getD,List.getElem?_eq_getElem h]
 rfl
theorem ZlS (s:ByteArray) (hs:s.data.toList.length≤5): ∀(k i x:Nat),i≤s.data.toList.length→s.data.toList.length-i<k→x<10^i→
  n104_0 r30 k (s,()) () ((x:Int),((i:Int),()))=
   some ((if (s.data.toList.drop i).all ZgM then Sum.inl ((((s.data.toList.drop i).foldl Zgb x:Nat):Int),((s.data.toList.length:Int),()))else Sum.inr ((-1:Int),())),())
 |0,_,_,_,h,_=>absurd h (by omega)
 |k+1,i,x,hi,hk,hx=>by
  have hsz:(s.size:Int)=(s.data.toList.length:Int):=by rw[Lib.size_eq]
  have hp:10^i≤10^5:=Nat.pow_le_pow_right (by decide) (by omega)
  show (bif ltI (i:Int) (s.size:Int)then (bif leI 0 (i:Int)then (bif ltI (i:Int) (s.size:Int)then (bif ltI (bt s (i:Int)) 48 then some (Sum.inr ((-1:Int),()),())else bif leI 0 (i:Int)then (bif ltI (i:Int) (s.size:Int)then (bif ltI 57 (bt s (i:Int))then some (Sum.inr ((-1:Int),()),())else bif leI 0 (i:Int)then (bif ltI (i:Int) (s.size:Int)then
   n104_0 r30 k (s,()) () (wI (wI (wI (10*(x:Int))+wI (bt s (i:Int)))-48),(wI ((i:Int)+1),()))else none)else none)else none)else none)else none)else none)else some (Sum.inl ((x:Int),((i:Int),())),()))=_
  rw[hsz]
  by_cases hc:i<s.data.toList.length
  ·have h8:(s.data.toList[i]).toNat<256:=(s.data.toList[i]).toNat_lt
   rw[Zaj (show (i:Int)< (s.data.toList.length:Int) by omega),Zay (show (0:Int)≤(i:Int) by omega),Zw8 s i hc]
   simp only[cond_true]
   have ed:s.data.toList.drop i=s.data.toList[i]::s.data.toList.drop (i+1):=ZaQ hc
   rw[ed]
   generalize s.data.toList[i]=c at h8⊢
   by_cases h1:c.toNat<48
   ·rw[Zaj (by omega),cond_true,List.all_cons,show ZgM c=false by unfold ZgM;rw[decide_eq_false (by omega),Bool.false_and]]
    simp
   ·by_cases h2:57<c.toNat
    ·rw[Zam (by omega),cond_false,Zaj (by omega),cond_true,List.all_cons,show ZgM c=false by unfold ZgM;rw[decide_eq_false (show¬c.toNat≤57 by omega),Bool.and_false]]
     simp
    ·have hd:ZgM c=true:=by unfold ZgM;rw[decide_eq_true (by omega),decide_eq_true (by omega)];rfl
     have ev:wI (wI (wI (10*(x:Int))+wI (c.toNat:Int))-48)=((Zgb x c:Nat):Int):=by
      unfold Zgb
      rw[Zas (x:=10*(x:Int)) (by omega) (by omega),Zas (x:=(c.toNat:Int)) (by omega) (by omega),Zas (x:=10*(x:Int)+(c.toNat:Int)) (by omega) (by omega),Zas (by omega) (by omega)]
      omega
     rw[Zam (by omega),cond_false,Zam (by omega),cond_false,ev,ZaL (by omega),ZlS s hs k (i+1) (Zgb x c) (by omega) (by omega) (by unfold Zgb;rw[Nat.pow_succ];omega),List.all_cons,hd,Bool.true_and,List.foldl_cons]
  ·obtain rfl:i=s.data.toList.length:=by omega
   rw[Zam (by omega),cond_false,List.drop_length]
   rfl
theorem Zwr (a:ByteArray) (l:List UInt8) (b:ByteArray) (h:b.data.toList=l):(a.toList==b.toList)=decide (a.data.toList=l):=by
 rw[ByteArray.toList_eq,ByteArray.toList_eq,h]
 by_cases e:a.data.toList=l
 ·rw[decide_eq_true e,e,beq_self_eq_true]
 ·rw[decide_eq_false e];exact beq_eq_false_iff_ne.2 e
theorem Zv3 (s:ByteArray):r104 (s,())=some ((numA s.data.toList,()),()):=by
 unfold r104 m104 numA
 dsimp only
 have hsz:(s.size:Int)=(s.data.toList.length:Int):=by rw[Lib.size_eq]
 have e0:(s.toList==(bz []).toList)=decide (s.data.toList=[]):=Zwr s [] (bz []) rfl
 rw[e0,hsz]
 by_cases h0:s.data.toList=[]
 ·rw[decide_eq_true h0,cond_true,if_pos (.inl h0)]
 rw[decide_eq_false h0,cond_false]
 by_cases h5:5<s.data.toList.length
 ·rw[Zaj (show (5:Int)< (s.data.toList.length:Int) by omega),cond_true,if_pos (.inr h5)]
 rw[Zam (show¬(5:Int)< (s.data.toList.length:Int) by omega),cond_false,if_neg (by rintro (h|h);exact h0 h;exact h5 h)]
 have hl:=ZlS s (by omega) fuel 0 0 (Nat.zero_le _) (by have:=Zaq;omega) (by decide)
 rw[List.drop_zero]at hl
 refine Zaa hl ?_
 cases hd:s.data.toList.all ZgM with
 |false=>rw[if_neg (by simp),Bool.false_and,if_neg (by simp)];rfl
 |true=>
  rw[if_pos rfl,Bool.true_and]
  show ((r30 (((s.data.toList.foldl Zgb 0:Nat):Int),())).bind fun r2=>bif (!(r2.1.1.toList==s.toList))then some ((-(1:Int),()),())else some (((((s.data.toList.foldl Zgb 0:Nat):Int)),()),()))=_
  have hv:s.data.toList.foldl Zgb 0=ZkJ s.data.toList:=rfl
  have hb: ∀(l:List UInt8) (x:Nat),l.foldl Zgb x≤(x+1)*300^l.length:=by
   intro l
   induction l with
   |nil=>intro x;simp
   |cons c l ih=>
    intro x
    have h8:c.toNat<256:=c.toNat_lt
    rw[List.foldl_cons,List.length_cons,Nat.pow_succ]
    refine Nat.le_trans (ih _) ?_
    have:Zgb x c+1≤(x+1)*300:=by unfold Zgb;omega
    calc (Zgb x c+1)*300^l.length≤((x+1)*300)*300^l.length:=Nat.mul_le_mul_right _ this
     _=(x+1)*(300^l.length*300):=by rw[Nat.mul_assoc,Nat.mul_comm 300]
  have hbound:ZkJ s.data.toList≤9223372036854775807:=by
   have h1:=hb s.data.toList 0
   rw[hv]at h1
   have h2:300^s.data.toList.length≤300^5:=Nat.pow_le_pow_right (by decide) (by omega)
   omega
  rw[hv]
  refine Zaa (Zeo _ hbound) ?_
  have e1:((⟨(Lib.decDigits (ZkJ s.data.toList)).toArray⟩:ByteArray).toList==s.toList)=decide (Lib.decDigits (ZkJ s.data.toList)=s.data.toList):=Zwr _ _ s rfl
  show (bif (!((⟨(Lib.decDigits (ZkJ s.data.toList)).toArray⟩:ByteArray).toList==s.toList))then some ((-(1:Int),()),())else some ((((ZkJ s.data.toList:Nat):Int),()),()))=_
  rw[e1]
  by_cases hd2:Lib.decDigits (ZkJ s.data.toList)=s.data.toList
  ·rw[decide_eq_true hd2,if_pos rfl];rfl
  ·rw[decide_eq_false hd2,if_neg (by simp)];rfl
theorem Zwe {n:Nat} (h:n<100000):numA (Lib.decDigits n)=n:=by
 obtain ⟨a,b⟩:=Zn3 4 n h
 unfold numA
 rw[if_neg (by rintro (e|e);rw[e]at b;exact absurd b (by decide);omega)]
 have hd:(Lib.decDigits n).all ZgM=true:=List.all_eq_true.2 fun c hc=>by
  obtain ⟨h1,h2⟩:=Zlf n c hc
  unfold ZgM
  rw[decide_eq_true h1,decide_eq_true h2];rfl
 rw[hd,Zvx,decide_eq_true rfl]
 rfl
theorem ZwY: ∀(l:List UInt8) (x:Nat),l.all ZgM=true→l.foldl Zgb x< (x+1)*10^l.length
 | [],x,_=>by simp
 |c::l,x,h=>by
  rw[List.all_cons,Bool.and_eq_true]at h
  obtain ⟨h1,h2⟩:=h
  unfold ZgM at h1
  rw[Bool.and_eq_true,decide_eq_true_iff,decide_eq_true_iff]at h1
  rw[List.foldl_cons,List.length_cons,Nat.pow_succ]
  refine Nat.lt_of_lt_of_le (ZwY l _ h2) ?_
  have:Zgb x c+1≤(x+1)*10:=by unfold Zgb;omega
  calc (Zgb x c+1)*10^l.length≤((x+1)*10)*10^l.length:=Nat.mul_le_mul_right _ this
   _=(x+1)*(10^l.length*10):=by rw[Nat.mul_assoc,Nat.mul_comm 10]
theorem ZpL {l:List UInt8} (h:numA l≠ -1): ∃n:Nat,n<100000∧l=Lib.decDigits n∧numA l=n:=by
 unfold numA at h⊢
 split at h
 ·exact absurd rfl h
 ·rename_i h5
  split at h
  ·rename_i hd
   rw[if_neg h5,if_pos hd]
   rw[Bool.and_eq_true,decide_eq_true_iff]at hd
   have h1:=ZwY l 0 hd.1
   have h2:10^l.length≤10^5:=Nat.pow_le_pow_right (by decide) (by rcases Nat.lt_or_ge 5 l.length with e|e;exact absurd (.inr e) h5;exact e)
   exact ⟨ZkJ l,by show l.foldl Zgb 0<100000;omega,hd.2.symm,rfl⟩
  ·exact absurd rfl h
theorem ZuD {l:List UInt8}:numA l= -1↔ ∀n:Nat,n<100000→l≠Lib.decDigits n:=by
 constructor
 ·rintro h n hn rfl
  rw[Zwe hn]at h
  omega
 ·intro h
  rcases Decidable.em (numA l= -1)with e|e
  ·exact e
  ·obtain ⟨n,a,b,_⟩:=ZpL e
   exact absurd b (h n a)
def Zfl:List UInt8→Option (List UInt8×List UInt8)
 | []=>none
 |c::r=>if c=32 then some ([],r)else (Zfl r).map fun p=>(c::p.1,p.2)
def ZxD (s:ByteArray):ByteArray×Int×Bool×Unit:=match Zfl s.data.toList with
 |none=>(s,-1,true,())
 |some p=>(⟨p.1.toArray⟩,numA p.2,leI 0 (numA p.2),())
theorem extr (s:ByteArray) (i j:Nat):(s.extract i j).data.toList=(s.data.toList.take j).drop i:=by
 rw[ByteArray.data_extract,Array.toList_extract,List.extract_eq_take_drop,List.drop_take]
theorem Zkh (s:ByteArray) (hs:s.data.toList.length≤4000000): ∀(k i:Nat),i≤s.data.toList.length→s.data.toList.length-i<k→
  n27_0 r104 k (s,()) () ((i:Int),())=some (match Zfl (s.data.toList.drop i)with
   |none=>(Sum.inl ((s.data.toList.length:Int),()),())
   |some p=>(Sum.inr ((⟨(s.data.toList.take i++p.1).toArray⟩:ByteArray),(numA p.2,(leI 0 (numA p.2),()))),()))
 |0,_,_,h=>absurd h (by omega)
 |k+1,i,hi,hk=>by
  have hsz:(s.size:Int)=(s.data.toList.length:Int):=by rw[Lib.size_eq]
  have hsn:s.size=s.data.toList.length:=Lib.size_eq s
  show (bif ltI (i:Int) (s.size:Int)then (bif leI 0 (i:Int)then (bif ltI (i:Int) (s.size:Int)then (bif eqI (bt s (i:Int)) 32 then (bif leI 0 (wI ((i:Int)+1))then (bif leI (wI ((i:Int)+1)) (s.size:Int)then
   ((r104 (ByteArray.extract s (Int.toNat (wI ((i:Int)+1))) s.size,())).bind fun r0=>bif leI 0 (i:Int)then (bif leI (i:Int) (s.size:Int)then some (Sum.inr (ByteArray.extract s 0 (Int.toNat (i:Int)),(r0.1.1,(leI 0 r0.1.1,()))),())else none)else none)else none)else none)
   else n27_0 r104 k (s,()) () (wI ((i:Int)+1),()))else none)else none)else some (Sum.inl ((i:Int),()),()))=_
  rw[hsz]
  by_cases hc:i<s.data.toList.length
  ·rw[Zaj (show (i:Int)< (s.data.toList.length:Int) by omega),Zay (show (0:Int)≤(i:Int) by omega),Zw8 s i hc,ZaL (by omega),Zay (show (0:Int)≤((i+1:Nat):Int) by omega),Zay (show ((i+1:Nat):Int)≤(s.data.toList.length:Int) by omega),Zay (show (i:Int)≤(s.data.toList.length:Int) by omega)]
   simp only[cond_true]
   have ed:s.data.toList.drop i=s.data.toList[i]::s.data.toList.drop (i+1):=ZaQ hc
   rw[ed]
   by_cases h32:s.data.toList[i]=32
   ·rw[h32,show eqI (((32:UInt8).toNat:Nat):Int) 32=true from rfl,cond_true,Zv3]
    simp only[Zfl,if_true,Option.bind_some]
    have e1:(s.extract (Int.toNat ((i+1:Nat):Int)) s.size).data.toList=s.data.toList.drop (i+1):=by
     rw[extr,Int.toNat_natCast,hsn,List.take_length]
    have e2:s.extract 0 (Int.toNat (i:Int))=⟨(s.data.toList.take i++[]).toArray⟩:=by
     apply Go.WideShapes.bytes_inj
     rw[extr,Int.toNat_natCast,List.append_nil,List.drop_zero]
    rw[e1,e2]
   ·have hne:eqI ((s.data.toList[i]).toNat:Int) 32=false:=Zag fun e=>h32 (UInt8.toNat_inj.1 (by show _=32;omega))
    rw[hne,cond_false,Zkh s hs k (i+1) (by omega) (by omega)]
    simp only[Zfl,if_neg h32]
    cases Zfl (s.data.toList.drop (i+1))with
    |none=>rfl
    |some p=>
     simp only[Option.map_some]
     have e3:s.data.toList.take (i+1)++p.1=s.data.toList.take i++s.data.toList[i]::p.1:=by
      rw[List.take_succ_eq_append_getElem hc,List.append_assoc,List.singleton_append]
     rw[e3]
  ·obtain rfl:i=s.data.toList.length:=by omega
   rw[Zam (by omega),cond_false,List.drop_length]
   rfl
theorem Zut (s:ByteArray) (hs:s.data.toList.length≤4000000):r27 (s,())=some ((ZxD s,()):(ByteArray×Int×Bool×Unit)×Unit):=by
 unfold r27 m27 ZxD
 have h:=Zkh s hs fuel 0 (Nat.zero_le _) (by have:=Zaq;omega)
 rw[List.drop_zero,List.take_zero]at h
 refine Zaa h ?_
 cases Zfl s.data.toList with
 |none=>rfl
 |some p=>rfl
theorem pre1 (b:UInt8) (l:List UInt8):([32]:List UInt8).isPrefixOf (b::l)=decide (b=32):=by
 by_cases h:b=32
 ·subst h;simp[List.isPrefixOf]
 ·rw[decide_eq_false h]
  have:((32:UInt8)==b)=false:=beq_eq_false_iff_ne.2 (Ne.symm h)
  simp[List.isPrefixOf,this]
theorem ZrK: ∀l:List UInt8,(Zfl l=none∧Lib.index l [32]= -1)∨ ∃a b,Zfl l=some (a,b)∧l=a++32::b∧Lib.index l [32]=a.length
 | []=> .inl ⟨rfl,rfl⟩
 |c::l=>by
  by_cases h:c=32
  ·subst h
   refine .inr ⟨[],l,by simp[Zfl],rfl,?_⟩
   unfold Lib.index
   rw[pre1,decide_eq_true rfl,if_pos rfl]
   rfl
  ·have e:Lib.index (c::l) [32]=if Lib.index l [32]== -1 then-1 else Lib.index l [32]+1:=by
    conv=>lhs;unfold Lib.index
    rw[pre1,decide_eq_false h,if_neg (by simp)]
   rcases ZrK l with ⟨h1,h2⟩| ⟨a,b,h1,h2,h3⟩
   ·refine .inl ⟨by simp[Zfl,h,h1],?_⟩
    rw[e,h2]
    decide
   ·refine .inr ⟨c::a,b,by simp[Zfl,h,h1],by rw[h2];rfl,?_⟩
    rw[e,h3,if_neg (show¬(((a.length:Nat):Int)== -1)=true by rw[beq_iff_eq];omega),List.length_cons]
    omega
theorem Zo7: ∀(w b:List UInt8),¬(32:UInt8)∈w→Zfl (w++32::b)=some (w,b)
 | [],b,_=>by simp[Zfl]
 |c::w,b,h=>by
  have hc: ¬c=32:=fun e=>h (by rw[e];exact List.mem_cons_self)
  have hw: ¬(32:UInt8)∈w:=fun e=>h (List.mem_cons_of_mem _ e)
  simp[Zfl,hc,Zo7 w b hw]
theorem ZuT (w l:List UInt8) (hw: ¬(32:UInt8)∈w):(Lib.hasPrefix l (w++[32])=true∧ ∃b,Zfl l=some (w,b)∧Lib.trimPrefix l (w++[32])=b)∨
  (Lib.hasPrefix l (w++[32])=false∧ ∀b,Zfl l≠some (w,b)):=by
 cases h:Lib.hasPrefix l (w++[32])
 ·refine .inr ⟨rfl,fun b hb=> ?_⟩
  rcases ZrK l with ⟨h1,_⟩| ⟨a,b',h1,h2,_⟩
  ·rw[h1]at hb;cases hb
  ·rw[h1]at hb
   cases hb
   have:Lib.hasPrefix l (w++[32])=true:=by
    unfold Lib.hasPrefix
    rw[List.isPrefixOf_iff_prefix]
    exact ⟨b,by rw[h2];simp⟩
   rw[this]at h;cases h
 ·refine .inl ⟨rfl,?_⟩
  have h':=h
  unfold Lib.hasPrefix at h
  rw[List.isPrefixOf_iff_prefix]at h
  obtain ⟨b,rfl⟩:=h
  refine ⟨b,?_,?_⟩
  ·have e:w++[32]++b=w++32::b:=by simp
   rw[e];exact Zo7 w b hw
  ·unfold Lib.trimPrefix
   rw[h',if_pos rfl,List.drop_left]
theorem Zle: ∀(l:List UInt8) (acc:Nat),l.all ZgM=true→Lib.decFrom acc l=some (l.foldl Zgb acc)
 | [],_,_=>rfl
 |c::l,acc,h=>by
  rw[List.all_cons,Bool.and_eq_true]at h
  obtain ⟨h1,h2⟩:=h
  have hd:48≤c.toNat∧c.toNat≤57:=by
   unfold ZgM at h1
   rw[Bool.and_eq_true,decide_eq_true_iff,decide_eq_true_iff]at h1
   exact h1
  rw[Lib.decFrom,Lib.digitVal,if_pos hd]
  show Lib.decFrom (acc*10+(c.toNat-48)) l=_
  rw[Zle l _ h2,List.foldl_cons,Zgb,Nat.mul_comm]
theorem Zxg (n:Nat):(Lib.decDigits n).all ZgM=true:=List.all_eq_true.2 fun c hc=>by
 obtain ⟨h1,h2⟩:=Zlf n c hc
 unfold ZgM
 rw[decide_eq_true h1,decide_eq_true h2];rfl
theorem ZvI {n:Nat} (h:n<100000):Lib.atoiAll (Lib.decDigits n)= .ok (n:Int):=by
 obtain ⟨a,b⟩:=Zn3 4 n h
 rw[Lib.atoiAll_short _ (by omega)]
 have hv:Lib.decFrom 0 (Lib.decDigits n)=some n:=by
  rw[Zle _ _ (Zxg n)]
  exact congrArg some (Zvx n)
 have hd:=Zlf n
 generalize Lib.decDigits n=l at a b hv hd⊢
 cases l with
 |nil=>simp at b
 |cons c l=>
  obtain ⟨h1,h2⟩:=hd c List.mem_cons_self
  have e1:(c==45)=false:=by rw[beq_eq_false_iff_ne];rintro rfl;simp at h1
  have e2:(c==43)=false:=by rw[beq_eq_false_iff_ne];rintro rfl;simp at h1
  rw[Lib.atoi,e1,e2,if_neg (by simp),if_neg (by simp),Lib.decNat,List.isEmpty_cons,if_neg (by simp),hv]
  rfl
theorem Zol (n:Nat):Lib.itoa (n:Int)=Lib.decDigits n:=by
 unfold Lib.itoa
 rw[if_neg (by omega),Int.toNat_natCast]
theorem ZiB (a b:List UInt8):bz a++bz b=bz (a++b):=by
 apply ByteArray.ext
 rw[ByteArray.data_append]
 exact List.append_toArray ..
theorem Zbi (a:List UInt8):ByteArray.size (bz a)=a.length:=by
 show Array.size ⟨a⟩=_
 rfl
theorem Zd0 (n:Nat) (hn:n≤9223372036854775807):r44 ((n:Int),())=some ((bz (Lib.decDigits n),()),()):=by
 unfold r44 m44
 have h:r122 ((n:Int),())=some ((bz (Lib.decDigits n),()),()):=by
  show (bif decide (-9223372036854775808≤(n:Int))&&decide ((n:Int)≤9223372036854775807)then some ((bz (Lib.itoa (n:Int)),()),())else none)=_
  rw[decide_eq_true (by omega),decide_eq_true (by omega),Zol]
  rfl
 exact Zaa h rfl
def decI (n:Int):List UInt8:=Lib.decDigits n.toNat
theorem ZeE {n:Int} (h1:n≤65535):(decI n).length≤5:=(Zn3 4 n.toNat (by omega)).1
def flgT (a b c d:Bool):List UInt8:=match a,b,c,d with
 |false,false,false,false=>[45]
 |a,b,c,d=>(if a then [67]else [])++(if b then [90]else [])++(if c then [73]else [])++(if d then [78]else [])
def Zdt (c:Tup cpuL):List UInt8:=if Zfj c then [65]++decI c.1++[32,88]++decI c.2.1++[32,83]++decI c.2.2.1++[32,80,99]++decI c.2.2.2.1++[32]++flgT c.2.2.2.2.2.2.1 c.2.2.2.2.1 c.2.2.2.2.2.2.2.1 c.2.2.2.2.2.1 else []
theorem Zt5 {c:Tup cpuL} (h:Zfj c=true):(0≤c.1∧c.1≤255)∧(0≤c.2.1∧c.2.1≤255)∧(0≤c.2.2.1∧c.2.2.1≤255)∧(0≤c.2.2.2.1∧c.2.2.2.1≤65535):=by
 unfold Zfj at h
 simp only[Bool.and_eq_true,ZbI]at h
 exact h
theorem Zqx (c:Tup cpuL):decide (Zdt c=[])= !Zfj c:=by
 unfold Zdt
 cases Zfj c with
 |false=>rfl
 |true=>simp
theorem Zn2 {n:Int} (h0:0≤n) (h1:n≤65535):r30 (n,())=some ((bz (decI n),()),()):=by
 obtain ⟨k,rfl⟩:=Int.eq_ofNat_of_zero_le h0
 exact Zeo k (by omega)
theorem Zn1 {n:Int} (h0:0≤n) (h1:n≤65535):r44 (n,())=some ((bz (decI n),()),()):=by
 obtain ⟨k,rfl⟩:=Int.eq_ofNat_of_zero_le h0
 exact Zd0 k (by omega)
theorem Zft {A:Type} {a b n:Nat} {x y:Option A} {r:A} (h:a≤n) (hb:b≤n) (hn:n+n≤4611686018427387904) (hx:x=some r):(bif leN (a+b) 4611686018427387904 then x else y)=some r:=by
 rw[Zbn (by omega),cond_true,hx]
theorem Zm0 (c:Tup cpuL):r97 (c,())=some ((bz (Zdt c),()),()):=by
 unfold r97 m97
 refine Zaa (Zg4 c) ?_
 cases hk:Zfj c with
 |false=>unfold Zdt;rw[hk];rfl
 |true=>
  obtain ⟨⟨a0,a1⟩,⟨x0,x1⟩,⟨s0,s1⟩,p0,p1⟩:=Zt5 hk
  obtain ⟨(a:Int),(x:Int),(s:Int),(p:Int),z,n,c,i,_⟩:=c
  have a0:(0:Int)≤a:=a0
  have a1:a≤(255:Int):=a1
  have x0:(0:Int)≤x:=x0
  have x1:x≤(255:Int):=x1
  have s0:(0:Int)≤s:=s0
  have s1:s≤(255:Int):=s1
  have p0:(0:Int)≤p:=p0
  have p1:p≤(65535:Int):=p1
  unfold Zdt
  rw[hk,if_pos rfl]
  rw[Bool.not_true,cond_false]
  have la:=ZeE (n:=a) (by omega)
  have lx:=ZeE (n:=x) (by omega)
  have ls:=ZeE (n:=s) (by omega)
  have lp:=ZeE (n:=p) (by omega)
  refine Zaa (Zn2 (n:=a) a0 (by omega)) ?_
  dsimp only
  generalize decI a=A at la⊢
  rw[ZiB,ZiB]
  refine Zft (n:=100) (by rw[Zbi];simp) (by rw[Zbi];omega) (by decide) (Zft (n:=100) (by rw[Zbi];simp;omega) (by rw[Zbi];simp) (by decide) ?_)
  refine Zaa (Zn2 (n:=x) x0 (by omega)) ?_
  dsimp only
  generalize decI x=X at lx⊢
  simp only[ZiB]
  refine Zft (n:=100) (by rw[Zbi];simp;omega) (by rw[Zbi];omega) (by decide) (Zft (n:=100) (by rw[Zbi];simp;omega) (by rw[Zbi];simp) (by decide) ?_)
  refine Zaa (Zn2 (n:=s) s0 (by omega)) ?_
  dsimp only
  generalize decI s=S at ls⊢
  simp only[ZiB]
  refine Zft (n:=100) (by rw[Zbi];simp;omega) (by rw[Zbi];omega) (by decide) (Zft (n:=100) (by rw[Zbi];simp;omega) (by rw[Zbi];simp) (by decide) ?_)
  refine Zaa (Zn2 (n:=p) p0 p1) ?_
  dsimp only
  generalize decI p=P at lp⊢
  simp only[ZiB]
  refine Zft (n:=100) (by rw[Zbi];simp;omega) (by rw[Zbi];omega) (by decide) (Zft (n:=100) (by rw[Zbi];simp;omega) (by rw[Zbi];simp) (by decide) ?_)
  generalize hQ:[65]++A++[32,88]++X++[32,83]++S++[32,80,99]++P++[32]=Q
  have lQ:Q.length≤50:=by rw[←hQ];simp;omega
  cases c<;>cases z<;>cases i<;>cases n<;>exact Zft (n:=100) (by rw[Zbi];omega) (by rw[Zbi];simp) (by decide) rfl
theorem ZsU (k:Nat) (c z i n:Bool):n124_0 r82 r44 r204 (k+5) ([c,z,i,n],(lenI [c,z,i,n],())) () (bz [],((0:Int),()))=
  some (Sum.inl (bz ((if c then [67]else [])++(if z then [90]else [])++(if i then [73]else [])++(if n then [78]else [])),((4:Int),())),()):=by
 cases c<;>cases z<;>cases i<;>cases n<;>rfl
theorem ZyE (p q r s f:List UInt8) (h:p.length+q.length+r.length+s.length+f.length≤1000):r204 ((bz p::bz q::bz r::bz s::bz f::[]),(bz [32],()))=some ((bz (p++[32]++q++[32]++r++[32]++s++[32]++f),()),()):=by
 show (bif Nat.ble 5 140737488355328&&Nat.ble (Lib.join [p,q,r,s,f] [32]).length 140737488355328 then some ((bz (Lib.join [p,q,r,s,f] [32]),()),())else none)=_
 have e:Lib.join [p,q,r,s,f] [32]=p++[32]++q++[32]++r++[32]++s++[32]++f:=by simp[Lib.join,List.intercalate,List.append_assoc]
 rw[e]
 generalize hz:p++[32]++q++[32]++r++[32]++s++[32]++f=z
 have hl:z.length≤2000:=by rw[←hz];simp;omega
 have hb:Nat.ble z.length 140737488355328=true:=by rw[Nat.ble_eq];omega
 rw[hb]
 rfl
theorem ZmN (c:Tup cpuL):r124 (c,())=some ((bz (Zdt c),()),()):=by
 unfold r124 m124
 refine Zaa (ZgG c) ?_
 cases hk:Zfj c with
 |false=>unfold Zdt;rw[hk];rfl
 |true=>
  obtain ⟨⟨a0,a1⟩,⟨x0,x1⟩,⟨s0,s1⟩,p0,p1⟩:=Zt5 hk
  obtain ⟨(a:Int),(x:Int),(s:Int),(p:Int),z,n,c,i,_⟩:=c
  have a0:(0:Int)≤a:=a0
  have a1:a≤(255:Int):=a1
  have x0:(0:Int)≤x:=x0
  have x1:x≤(255:Int):=x1
  have s0:(0:Int)≤s:=s0
  have s1:s≤(255:Int):=s1
  have p0:(0:Int)≤p:=p0
  have p1:p≤(65535:Int):=p1
  unfold Zdt
  rw[hk,if_pos rfl]
  rw[Bool.not_true,cond_false]
  have la:=ZeE (n:=a) (by omega)
  have lx:=ZeE (n:=x) (by omega)
  have ls:=ZeE (n:=s) (by omega)
  have lp:=ZeE (n:=p) (by omega)
  obtain ⟨k,hf⟩: ∃k,fuel=k+5:=⟨fuel-5,by have:=Zaq;omega⟩
  have hl:L124_0 ([c,z,i,n],(lenI [c,z,i,n],())) () (bz [],((0:Int),()))=some (Sum.inl (bz ((if c then [67]else [])++(if z then [90]else [])++(if i then [73]else [])++(if n then [78]else [])),((4:Int),())),()):=by
   unfold L124_0
   rw[hf]
   exact ZsU k c z i n
  refine Zaa hl ?_
  have go: ∀f:List UInt8,f.length≤4→((r44 (a,())).bind fun u3=>bif leN ((bz [65]).size+u3.1.1.size) 4611686018427387904 then (r44 (x,())).bind fun u4=>bif leN ((bz [88]).size+u4.1.1.size) 4611686018427387904 then (r44 (s,())).bind fun u5=>
    bif leN ((bz [83]).size+u5.1.1.size) 4611686018427387904 then (r44 (p,())).bind fun u6=>bif leN ((bz [80,99]).size+u6.1.1.size) 4611686018427387904 then (r204 ((bz [65]++u3.1.1)::(bz [88]++u4.1.1)::(bz [83]++u5.1.1)::(bz [80,99]++u6.1.1)::bz f::[],(bz [32],()))).bind fun u7=>some (u7.1,())else none else none else none else none)=
    some ((bz ([65]++decI a++[32,88]++decI x++[32,83]++decI s++[32,80,99]++decI p++[32]++f),()),()):=fun f hf=>by
   refine Zaa (Zn1 (n:=a) a0 (by omega)) ?_
   refine Zft (n:=100) (by rw[Zbi];simp) (by rw[Zbi];omega) (by decide) ?_
   refine Zaa (Zn1 (n:=x) x0 (by omega)) ?_
   refine Zft (n:=100) (by rw[Zbi];simp) (by rw[Zbi];omega) (by decide) ?_
   refine Zaa (Zn1 (n:=s) s0 (by omega)) ?_
   refine Zft (n:=100) (by rw[Zbi];simp) (by rw[Zbi];omega) (by decide) ?_
   refine Zaa (Zn1 (n:=p) p0 p1) ?_
   refine Zft (n:=100) (by rw[Zbi];simp) (by rw[Zbi];omega) (by decide) ?_
   dsimp only
   rw[ZiB,ZiB,ZiB,ZiB]
   refine Zaa (ZyE _ _ _ _ _ (by simp;omega)) ?_
   simp[List.append_assoc]
  show (bif (bz ((if c then [67]else [])++(if z then [90]else [])++(if i then [73]else [])++(if n then [78]else []))).toList==(bz []).toList then _ else _)=_
  rw[Zwr _ [] (bz []) rfl]
  have g:=go (flgT c z i n) (by cases c<;>cases z<;>cases i<;>cases n<;>decide)
  cases c<;>cases z<;>cases i<;>cases n<;>exact g

end Go.Proofs.YtleidaafbhojfaaGreatDoor.Plain
