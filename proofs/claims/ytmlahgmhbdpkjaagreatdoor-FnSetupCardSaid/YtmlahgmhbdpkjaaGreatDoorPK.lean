/- Plain laws of the printed functions: Str, Str2, Str3. No condition beyond those that each lemma states. -/
import Derived.Test.YtmlahgmhbdpkjaaGreatDoorPJ
set_option linter.unusedVariables false
set_option linter.unusedSimpArgs false
namespace Go.Proofs.YtmlahgmhbdpkjaaGreatDoor.Plain
open Go Go.Tev
def digs (n:Nat):List UInt8:=if n=0 then []else Lib.decDigits n
theorem Zri {n:Nat} (h:n≠0):digs n=digs (n/10)++[UInt8.ofNat (48+n%10)]:=by
 unfold digs
 rw[if_neg h]
 by_cases h1:n<10
 ·rw[Lib.decDigits,dif_pos h1,if_pos (show n/10=0 by omega),List.nil_append,Nat.mod_eq_of_lt h1]
 ·rw[Lib.decDigits,dif_neg h1,if_neg (show n/10≠0 by omega)]
theorem Zv4 {x:Int} (h1:0≤x) (h2:x≤255):wB x=x:=by
 show IntKind.u8.wrap x=x
 rw[IntKind.wrap_u8];omega
theorem ZqR (n:Nat) (l:List UInt8):Zh3 [((48+n%10:Nat):Int)]++(⟨l.toArray⟩:ByteArray)=⟨(UInt8.ofNat (48+n%10)::l).toArray⟩:=by
 apply ByteArray.ext
 rw[ByteArray.data_append]
 show (List.map (fun n:Int=>UInt8.ofNat n.toNat) [((48+n%10:Nat):Int)]).toArray++l.toArray=(UInt8.ofNat (48+n%10)::l).toArray
 rw[List.map_singleton,Int.toNat_natCast,List.append_toArray,List.singleton_append]
theorem Zgh: ∀(j k:Nat) (n:Nat) (l:List UInt8),n<10^j→n≤9223372036854775807→j<k→l.length+j≤100→
  n190_0 k () () ((n:Int),((⟨l.toArray⟩:ByteArray),()))=some (Sum.inl ((0:Int),((⟨(digs n++l).toArray⟩:ByteArray),())),())
 |_,0,_,_,_,_,h,_=>absurd h (by omega)
 |j,k+1,n,l,hn,hm,hk,hs=>by
  show (bif ltI 0 (n:Int)then _ else some (Sum.inl ((n:Int),((⟨l.toArray⟩:ByteArray),())),()))=_
  by_cases h0:0<n
  ·rw[Zaj (show (0:Int)< (n:Int) by omega),cond_true]
   have hj:0<j:=by
    rcases Nat.eq_zero_or_pos j with e|e
    ·subst e;simp at hn;omega
    ·exact e
   obtain ⟨j,rfl⟩: ∃i,j=i+1:=⟨j-1,by omega⟩
   rw[Zc5 (show (Zh3 [wB (wI (48+Int.tmod (n:Int) 10))]).size+(⟨l.toArray⟩:ByteArray).size≤4611686018427387904 by show 1+l.toArray.size≤_;rw[List.size_toArray];omega),cond_true]
   have e:wI (Int.tdiv (n:Int) 10)=((n/10:Nat):Int):=by rw[Zkh (by omega),Zau (by omega) (by omega)];omega
   rw[e]
   have e2:Zh3 [wB (wI (48+Int.tmod (n:Int) 10))]++(⟨l.toArray⟩:ByteArray)=⟨(UInt8.ofNat (48+n%10)::l).toArray⟩:=by
    have hw:wB (wI (48+Int.tmod (n:Int) 10))=((48+n%10:Nat):Int):=by
     obtain ⟨t0,t1⟩:=ZsB (a:=(n:Int)) (n:=10) (by omega) (by omega)
     have et:Int.tmod (n:Int) 10=((n%10:Nat):Int):=by rw[Int.tmod_eq_emod_of_nonneg (by omega)];omega
     rw[et,Zau (by omega) (by omega)]
     exact Zv4 (by omega) (by omega)
    rw[hw]
    exact ZqR n l
   rw[e2]
   show n190_0 k () () (((n/10:Nat):Int),((⟨(UInt8.ofNat (48+n%10)::l).toArray⟩:ByteArray),()))=_
   rw[Zgh j k (n/10) (UInt8.ofNat (48+n%10)::l) (by rw[Nat.pow_succ]at hn;omega) (by omega) (by omega) (by rw[List.length_cons];omega),Zri (n:=n) (by omega),List.append_assoc,List.singleton_append]
  ·obtain rfl:n=0:=by omega
   rw[ZaB (by decide),cond_false]
   rfl
theorem Zob (n:Nat) (hn:n≤9223372036854775807):r190 ((n:Int),())=some (((⟨(Lib.decDigits n).toArray⟩:ByteArray),()),()):=by
 unfold r190 m190
 dsimp only
 by_cases h:n=0
 ·subst h
  rw[show eqI ((0:Nat):Int) 0=true from rfl,cond_true,Lib.decDigits,dif_pos (by decide)]
  rfl
 ·rw[Zaq (show¬(n:Int)=0 by omega),cond_false]
  refine Zaa (Zgh 20 fuel n [] (by omega) hn (by have:=Zat;omega) (by decide)) ?_
  rw[List.append_nil]
  unfold digs
  rw[if_neg h]
  rfl
def ZiE (l:List UInt8):Nat:=l.foldl (fun x c=>10*x+(c.toNat-48)) 0
theorem Zhq {d:Nat} (h:d<10):(UInt8.ofNat (48+d)).toNat=48+d:=by
 rw[UInt8.toNat_ofNat']
 omega
theorem ZlN (n:Nat):Lib.decDigits n=if n<10 then [UInt8.ofNat (48+n)]else Lib.decDigits (n/10)++[UInt8.ofNat (48+n%10)]:=by
 rw[Lib.decDigits]
 split<;>rfl
theorem ZsD (n:Nat):ZiE (Lib.decDigits n)=n:=by
 induction n using Nat.strongRecOn with
 |_ n ih=>
  rw[ZlN]
  split
  ·rename_i h
   show 10*0+((UInt8.ofNat (48+n)).toNat-48)=n
   rw[Zhq h];omega
  ·rename_i h
   have:=ih (n/10) (by omega)
   unfold ZiE at this⊢
   rw[List.foldl_append,this]
   show 10*(n/10)+((UInt8.ofNat (48+n%10)).toNat-48)=n
   rw[Zhq (by omega)];omega
theorem Zjb (n:Nat): ∀c,c∈Lib.decDigits n→48≤c.toNat∧c.toNat≤57:=by
 induction n using Nat.strongRecOn with
 |_ n ih=>
  intro c hc
  rw[ZlN]at hc
  split at hc
  ·rename_i h
   rw[List.mem_singleton.1 hc,Zhq h];omega
  ·rcases List.mem_append.1 hc with h1|h1
   ·exact ih (n/10) (by omega) c h1
   ·rw[List.mem_singleton.1 h1,Zhq (by omega)];omega
theorem ZnY: ∀(k n:Nat),n<10^(k+1)→(Lib.decDigits n).length≤k+1∧1≤(Lib.decDigits n).length
 |0,n,h=>by
  rw[ZlN,if_pos (by simpa using h)]
  exact ⟨Nat.le_refl _,Nat.le_refl _⟩
 |k+1,n,h=>by
  rw[ZlN]
  split
  ·exact ⟨by show 1≤_;omega,Nat.le_refl _⟩
  ·obtain ⟨a,b⟩:=ZnY k (n/10) (by rw[Nat.pow_succ]at h;omega)
   rw[List.length_append,List.length_singleton]
   exact ⟨by omega,by omega⟩
def Zfv (c:UInt8):Bool:=decide (48≤c.toNat)&&decide (c.toNat≤57)
def Ze4 (x:Nat) (c:UInt8):Nat:=10*x+(c.toNat-48)
def numA (l:List UInt8):Int:=if l=[]∨5<l.length then-1 else if l.all Zfv&&decide (Lib.decDigits (ZiE l)=l)then (ZiE l:Int)else-1
theorem Zue (s:ByteArray) (i:Nat) (h:i<s.data.toList.length):bt s (i:Int)=((s.data.toList[i]).toNat:Int):=by
 unfold bt
 rw[Int.toNat_natCast,List.getD_eq_getElem?_getD,List.getElem?_eq_getElem h]
 rfl
theorem ZjA (s:ByteArray) (hs:s.data.toList.length≤5): ∀(k i x:Nat),i≤s.data.toList.length→s.data.toList.length-i<k→x<10^i→
  n151_0 r190 k (s,()) () ((x:Int),((i:Int),()))=
   some ((if (s.data.toList.drop i).all Zfv then Sum.inl ((((s.data.toList.drop i).foldl Ze4 x:Nat):Int),((s.data.toList.length:Int),()))else Sum.inr ((-1:Int),())),())
 |0,_,_,_,h,_=>absurd h (by omega)
 |k+1,i,x,hi,hk,hx=>by
  have hsz:(s.size:Int)=(s.data.toList.length:Int):=by rw[Lib.size_eq]
  have hp:10^i≤10^5:=Nat.pow_le_pow_right (by decide) (by omega)
  show (bif ltI (i:Int) (s.size:Int)then (bif leI 0 (i:Int)then (bif ltI (i:Int) (s.size:Int)then (bif ltI (bt s (i:Int)) 48 then some (Sum.inr ((-1:Int),()),())else bif leI 0 (i:Int)then (bif ltI (i:Int) (s.size:Int)then (bif ltI 57 (bt s (i:Int))then some (Sum.inr ((-1:Int),()),())else bif leI 0 (i:Int)then (bif ltI (i:Int) (s.size:Int)then
   n151_0 r190 k (s,()) () (wI (wI (wI (10*(x:Int))+wI (bt s (i:Int)))-48),(wI ((i:Int)+1),()))else none)else none)else none)else none)else none)else none)else some (Sum.inl ((x:Int),((i:Int),())),()))=_
  rw[hsz]
  by_cases hc:i<s.data.toList.length
  ·have h8:(s.data.toList[i]).toNat<256:=(s.data.toList[i]).toNat_lt
   rw[Zaj (show (i:Int)< (s.data.toList.length:Int) by omega),Zao (show (0:Int)≤(i:Int) by omega),Zue s i hc]
   simp only[cond_true]
   have ed:s.data.toList.drop i=s.data.toList[i]::s.data.toList.drop (i+1):=ZaY hc
   rw[ed]
   generalize s.data.toList[i]=c at h8⊢
   by_cases h1:c.toNat<48
   ·rw[Zaj (by omega),cond_true,List.all_cons,show Zfv c=false by unfold Zfv;rw[decide_eq_false (by omega),Bool.false_and]]
    simp
   ·by_cases h2:57<c.toNat
    ·rw[ZaB (by omega),cond_false,Zaj (by omega),cond_true,List.all_cons,show Zfv c=false by unfold Zfv;rw[decide_eq_false (show¬c.toNat≤57 by omega),Bool.and_false]]
     simp
    ·have hd:Zfv c=true:=by unfold Zfv;rw[decide_eq_true (by omega),decide_eq_true (by omega)];rfl
     have ev:wI (wI (wI (10*(x:Int))+wI (c.toNat:Int))-48)=((Ze4 x c:Nat):Int):=by
      unfold Ze4
      rw[Zau (x:=10*(x:Int)) (by omega) (by omega),Zau (x:=(c.toNat:Int)) (by omega) (by omega),Zau (x:=10*(x:Int)+(c.toNat:Int)) (by omega) (by omega),Zau (by omega) (by omega)]
      omega
     rw[ZaB (by omega),cond_false,ZaB (by omega),cond_false,ev,ZaW (by omega),ZjA s hs k (i+1) (Ze4 x c) (by omega) (by omega) (by unfold Ze4;rw[Nat.pow_succ];omega),List.all_cons,hd,Bool.true_and,List.foldl_cons]
  ·obtain rfl:i=s.data.toList.length:=by omega
   rw[ZaB (by omega),cond_false,List.drop_length]
   rfl
theorem ZtE (a:ByteArray) (l:List UInt8) (b:ByteArray) (h:b.data.toList=l):(a.toList==b.toList)=decide (a.data.toList=l):=by
 rw[ByteArray.toList_eq,ByteArray.toList_eq,h]
 by_cases e:a.data.toList=l
 ·rw[decide_eq_true e,e,beq_self_eq_true]
 ·rw[decide_eq_false e];exact beq_eq_false_iff_ne.2 e
theorem Ztb (s:ByteArray):r151 (s,())=some ((numA s.data.toList,()),()):=by
 unfold r151 m151 numA
 dsimp only
 have hsz:(s.size:Int)=(s.data.toList.length:Int):=by rw[Lib.size_eq]
 have e0:(s.toList==(bz []).toList)=decide (s.data.toList=[]):=ZtE s [] (bz []) rfl
 rw[e0,hsz]
 by_cases h0:s.data.toList=[]
 ·rw[decide_eq_true h0,cond_true,if_pos (.inl h0)]
 rw[decide_eq_false h0,cond_false]
 by_cases h5:5<s.data.toList.length
 ·rw[Zaj (show (5:Int)< (s.data.toList.length:Int) by omega),cond_true,if_pos (.inr h5)]
 rw[ZaB (show¬(5:Int)< (s.data.toList.length:Int) by omega),cond_false,if_neg (by rintro (h|h);exact h0 h;exact h5 h)]
 have hl:=ZjA s (by omega) fuel 0 0 (Nat.zero_le _) (by have:=Zat;omega) (by decide)
 rw[List.drop_zero]at hl
 refine Zaa hl ?_
 cases hd:s.data.toList.all Zfv with
 |false=>rw[if_neg (by simp),Bool.false_and,if_neg (by simp)];rfl
 |true=>
  rw[if_pos rfl,Bool.true_and]
  show ((r190 (((s.data.toList.foldl Ze4 0:Nat):Int),())).bind fun r2=>bif (!(r2.1.1.toList==s.toList))then some ((-(1:Int),()),())else some (((((s.data.toList.foldl Ze4 0:Nat):Int)),()),()))=_
  have hv:s.data.toList.foldl Ze4 0=ZiE s.data.toList:=rfl
  have hb: ∀(l:List UInt8) (x:Nat),l.foldl Ze4 x≤(x+1)*300^l.length:=by
   intro l
   induction l with
   |nil=>intro x;simp
   |cons c l ih=>
    intro x
    have h8:c.toNat<256:=c.toNat_lt
    rw[List.foldl_cons,List.length_cons,Nat.pow_succ]
    refine Nat.le_trans (ih _) ?_
    have:Ze4 x c+1≤(x+1)*300:=by unfold Ze4;omega
    calc (Ze4 x c+1)*300^l.length≤((x+1)*300)*300^l.length:=Nat.mul_le_mul_right _ this
     _=(x+1)*(300^l.length*300):=by rw[Nat.mul_assoc,Nat.mul_comm 300]
  have hbound:ZiE s.data.toList≤9223372036854775807:=by
   have h1:=hb s.data.toList 0
   rw[hv]at h1
   have h2:300^s.data.toList.length≤300^5:=Nat.pow_le_pow_right (by decide) (by omega)
   omega
  rw[hv]
  refine Zaa (Zob _ hbound) ?_
  have e1:((⟨(Lib.decDigits (ZiE s.data.toList)).toArray⟩:ByteArray).toList==s.toList)=decide (Lib.decDigits (ZiE s.data.toList)=s.data.toList):=ZtE _ _ s rfl
  show (bif (!((⟨(Lib.decDigits (ZiE s.data.toList)).toArray⟩:ByteArray).toList==s.toList))then some ((-(1:Int),()),())else some ((((ZiE s.data.toList:Nat):Int),()),()))=_
  rw[e1]
  by_cases hd2:Lib.decDigits (ZiE s.data.toList)=s.data.toList
  ·rw[decide_eq_true hd2,if_pos rfl];rfl
  ·rw[decide_eq_false hd2,if_neg (by simp)];rfl
theorem Zti {n:Nat} (h:n<100000):numA (Lib.decDigits n)=n:=by
 obtain ⟨a,b⟩:=ZnY 4 n h
 unfold numA
 rw[if_neg (by rintro (e|e);rw[e]at b;exact absurd b (by decide);omega)]
 have hd:(Lib.decDigits n).all Zfv=true:=List.all_eq_true.2 fun c hc=>by
  obtain ⟨h1,h2⟩:=Zjb n c hc
  unfold Zfv
  rw[decide_eq_true h1,decide_eq_true h2];rfl
 rw[hd,ZsD,decide_eq_true rfl]
 rfl
theorem Zt1: ∀(l:List UInt8) (x:Nat),l.all Zfv=true→l.foldl Ze4 x< (x+1)*10^l.length
 | [],x,_=>by simp
 |c::l,x,h=>by
  rw[List.all_cons,Bool.and_eq_true]at h
  obtain ⟨h1,h2⟩:=h
  unfold Zfv at h1
  rw[Bool.and_eq_true,decide_eq_true_iff,decide_eq_true_iff]at h1
  rw[List.foldl_cons,List.length_cons,Nat.pow_succ]
  refine Nat.lt_of_lt_of_le (Zt1 l _ h2) ?_
  have:Ze4 x c+1≤(x+1)*10:=by unfold Ze4;omega
  calc (Ze4 x c+1)*10^l.length≤((x+1)*10)*10^l.length:=Nat.mul_le_mul_right _ this
   _=(x+1)*(10^l.length*10):=by rw[Nat.mul_assoc,Nat.mul_comm 10]
theorem Zg8 {l:List UInt8} (h:numA l≠ -1): ∃n:Nat,n<100000∧l=Lib.decDigits n∧numA l=n:=by
 unfold numA at h⊢
 split at h
 ·exact absurd rfl h
 ·rename_i h5
  split at h
  ·rename_i hd
   rw[if_neg h5,if_pos hd]
   rw[Bool.and_eq_true,decide_eq_true_iff]at hd
   have h1:=Zt1 l 0 hd.1
   have h2:10^l.length≤10^5:=Nat.pow_le_pow_right (by decide) (by rcases Nat.lt_or_ge 5 l.length with e|e;exact absurd (.inr e) h5;exact e)
   exact ⟨ZiE l,by show l.foldl Ze4 0<100000;omega,hd.2.symm,rfl⟩
  ·exact absurd rfl h
theorem ZrQ {l:List UInt8}:numA l= -1↔ ∀n:Nat,n<100000→l≠Lib.decDigits n:=by
 constructor
 ·rintro h n hn rfl
  rw[Zti hn]at h
  omega
 ·intro h
  rcases Decidable.em (numA l= -1)with e|e
  ·exact e
  ·obtain ⟨n,a,b,_⟩:=Zg8 e
   exact absurd b (h n a)
def Zc2:List UInt8→Option (List UInt8×List UInt8)
 | []=>none
 |c::r=>if c=32 then some ([],r)else (Zc2 r).map fun p=>(c::p.1,p.2)
def ZuA (s:ByteArray):ByteArray×Int×Bool×Unit:=match Zc2 s.data.toList with
 |none=>(s,-1,true,())
 |some p=>(⟨p.1.toArray⟩,numA p.2,leI 0 (numA p.2),())
theorem extr (s:ByteArray) (i j:Nat):(s.extract i j).data.toList=(s.data.toList.take j).drop i:=by
 rw[ByteArray.data_extract,Array.toList_extract,List.extract_eq_take_drop,List.drop_take]
theorem Zik (s:ByteArray) (hs:s.data.toList.length≤4000000): ∀(k i:Nat),i≤s.data.toList.length→s.data.toList.length-i<k→
  n110_0 r151 k (s,()) () ((i:Int),())=some (match Zc2 (s.data.toList.drop i)with
   |none=>(Sum.inl ((s.data.toList.length:Int),()),())
   |some p=>(Sum.inr ((⟨(s.data.toList.take i++p.1).toArray⟩:ByteArray),(numA p.2,(leI 0 (numA p.2),()))),()))
 |0,_,_,h=>absurd h (by omega)
 |k+1,i,hi,hk=>by
  have hsz:(s.size:Int)=(s.data.toList.length:Int):=by rw[Lib.size_eq]
  have hsn:s.size=s.data.toList.length:=Lib.size_eq s
  show (bif ltI (i:Int) (s.size:Int)then (bif leI 0 (i:Int)then (bif ltI (i:Int) (s.size:Int)then (bif eqI (bt s (i:Int)) 32 then (bif leI 0 (wI ((i:Int)+1))then (bif leI (wI ((i:Int)+1)) (s.size:Int)then
   ((r151 (ByteArray.extract s (Int.toNat (wI ((i:Int)+1))) s.size,())).bind fun r0=>bif leI 0 (i:Int)then (bif leI (i:Int) (s.size:Int)then some (Sum.inr (ByteArray.extract s 0 (Int.toNat (i:Int)),(r0.1.1,(leI 0 r0.1.1,()))),())else none)else none)else none)else none)
   else n110_0 r151 k (s,()) () (wI ((i:Int)+1),()))else none)else none)else some (Sum.inl ((i:Int),()),()))=_
  rw[hsz]
  by_cases hc:i<s.data.toList.length
  ·rw[Zaj (show (i:Int)< (s.data.toList.length:Int) by omega),Zao (show (0:Int)≤(i:Int) by omega),Zue s i hc,ZaW (by omega),Zao (show (0:Int)≤((i+1:Nat):Int) by omega),Zao (show ((i+1:Nat):Int)≤(s.data.toList.length:Int) by omega),Zao (show (i:Int)≤(s.data.toList.length:Int) by omega)]
   simp only[cond_true]
   have ed:s.data.toList.drop i=s.data.toList[i]::s.data.toList.drop (i+1):=ZaY hc
   rw[ed]
   by_cases h32:s.data.toList[i]=32
   ·rw[h32,show eqI (((32:UInt8).toNat:Nat):Int) 32=true from rfl,cond_true,Ztb]
    simp only[Zc2,if_true,Option.bind_some]
    have e1:(s.extract (Int.toNat ((i+1:Nat):Int)) s.size).data.toList=s.data.toList.drop (i+1):=by
     rw[extr,Int.toNat_natCast,hsn,List.take_length]
    have e2:s.extract 0 (Int.toNat (i:Int))=⟨(s.data.toList.take i++[]).toArray⟩:=by
     apply Go.WideShapes.bytes_inj
     rw[extr,Int.toNat_natCast,List.append_nil,List.drop_zero]
    rw[e1,e2]
   ·have hne:eqI ((s.data.toList[i]).toNat:Int) 32=false:=Zaq fun e=>h32 (UInt8.toNat_inj.1 (by show _=32;omega))
    rw[hne,cond_false,Zik s hs k (i+1) (by omega) (by omega)]
    simp only[Zc2,if_neg h32]
    cases Zc2 (s.data.toList.drop (i+1))with
    |none=>rfl
    |some p=>
     simp only[Option.map_some]
     have e3:s.data.toList.take (i+1)++p.1=s.data.toList.take i++s.data.toList[i]::p.1:=by
      rw[List.take_succ_eq_append_getElem hc,List.append_assoc,List.singleton_append]
     rw[e3]
  ·obtain rfl:i=s.data.toList.length:=by omega
   rw[ZaB (by omega),cond_false,List.drop_length]
   rfl
theorem ZrG (s:ByteArray) (hs:s.data.toList.length≤4000000):r110 (s,())=some ((ZuA s,()):(ByteArray×Int×Bool×Unit)×Unit):=by
 unfold r110 m110 ZuA
 have h:=Zik s hs fuel 0 (Nat.zero_le _) (by have:=Zat;omega)
 rw[List.drop_zero,List.take_zero]at h
 refine Zaa h ?_
 cases Zc2 s.data.toList with
 |none=>rfl
 |some p=>rfl
theorem pre1 (b:UInt8) (l:List UInt8):([32]:List UInt8).isPrefixOf (b::l)=decide (b=32):=by
 by_cases h:b=32
 ·subst h;simp[List.isPrefixOf]
 ·rw[decide_eq_false h]
  have:((32:UInt8)==b)=false:=beq_eq_false_iff_ne.2 (Ne.symm h)
  simp[List.isPrefixOf,this]
theorem Zl2: ∀l:List UInt8,(Zc2 l=none∧Lib.index l [32]= -1)∨ ∃a b,Zc2 l=some (a,b)∧l=a++32::b∧Lib.index l [32]=a.length
 | []=> .inl ⟨rfl,rfl⟩
 |c::l=>by
  by_cases h:c=32
  ·subst h
   refine .inr ⟨[],l,by simp[Zc2],rfl,?_⟩
   unfold Lib.index
   rw[pre1,decide_eq_true rfl,if_pos rfl]
   rfl
  ·have e:Lib.index (c::l) [32]=if Lib.index l [32]== -1 then-1 else Lib.index l [32]+1:=by
    conv=>lhs;unfold Lib.index
    rw[pre1,decide_eq_false h,if_neg (by simp)]
   rcases Zl2 l with ⟨h1,h2⟩| ⟨a,b,h1,h2,h3⟩
   ·refine .inl ⟨by simp[Zc2,h,h1],?_⟩
    rw[e,h2]
    decide
   ·refine .inr ⟨c::a,b,by simp[Zc2,h,h1],by rw[h2];rfl,?_⟩
    rw[e,h3,if_neg (show¬(((a.length:Nat):Int)== -1)=true by rw[beq_iff_eq];omega),List.length_cons]
    omega
theorem Zvi (l:List UInt8):Lib.cut l [32]=match Zc2 l with|none=>(l,[],false)|some p=>(p.1,p.2,true):=by
 unfold Lib.cut
 rcases Zl2 l with ⟨h1,h2⟩| ⟨a,b,h1,h2,h3⟩
 ·rw[h1,h2,if_neg (by decide)]
 ·rw[h1,h3,if_pos (by omega)]
  simp only[Int.toNat_natCast]
  rw[h2,List.take_left,show a.length+([32]:List UInt8).length=(a++[32]).length by simp,show a++32::b=(a++[32])++b by simp,List.drop_left]
theorem ZmM: ∀(w b:List UInt8),¬(32:UInt8)∈w→Zc2 (w++32::b)=some (w,b)
 | [],b,_=>by simp[Zc2]
 |c::w,b,h=>by
  have hc: ¬c=32:=fun e=>h (by rw[e];exact List.mem_cons_self)
  have hw: ¬(32:UInt8)∈w:=fun e=>h (List.mem_cons_of_mem _ e)
  simp[Zc2,hc,ZmM w b hw]
theorem Zr3 (w l:List UInt8) (hw: ¬(32:UInt8)∈w):(Lib.hasPrefix l (w++[32])=true∧ ∃b,Zc2 l=some (w,b)∧Lib.trimPrefix l (w++[32])=b)∨
  (Lib.hasPrefix l (w++[32])=false∧ ∀b,Zc2 l≠some (w,b)):=by
 cases h:Lib.hasPrefix l (w++[32])
 ·refine .inr ⟨rfl,fun b hb=> ?_⟩
  rcases Zl2 l with ⟨h1,_⟩| ⟨a,b',h1,h2,_⟩
  ·rw[h1]at hb;cases hb
  ·rw[h1]at hb
   cases hb
   have:Lib.hasPrefix l (w++[32])=true:=by
    unfold Lib.hasPrefix
    rw[List.isPrefixOf_iff_prefix]
    exact ⟨b,by rw[h2];simp⟩
   rw[this]at h;cases h
 ·refine .inl ⟨rfl,?_⟩
  have h':=h
  unfold Lib.hasPrefix at h
  rw[List.isPrefixOf_iff_prefix]at h
  obtain ⟨b,rfl⟩:=h
  refine ⟨b,?_,?_⟩
  ·have e:w++[32]++b=w++32::b:=by simp
   rw[e];exact ZmM w b hw
  ·unfold Lib.trimPrefix
   rw[h',if_pos rfl,List.drop_left]
def Zo1 (c:UInt8):List (List UInt8)→List (List UInt8)
 | []=>[[c]]
 |h::t=>(c::h)::t
def Zbs:List UInt8→List (List UInt8)
 | []=>[[]]
 |c::r=>if c=10 then []::Zbs r else Zo1 c (Zbs r)
theorem pre10 (b:UInt8) (l:List UInt8):([10]:List UInt8).isPrefixOf (b::l)=decide (b=10):=by
 by_cases h:b=10
 ·subst h;simp[List.isPrefixOf]
 ·rw[decide_eq_false h]
  have:((10:UInt8)==b)=false:=beq_eq_false_iff_ne.2 (Ne.symm h)
  simp[List.isPrefixOf,this]
theorem Zl1: ∀l:List UInt8,(¬(10:UInt8)∈l∧Lib.index l [10]= -1)∨ ∃a b,¬(10:UInt8)∈a∧l=a++10::b∧Lib.index l [10]=a.length
 | []=> .inl ⟨by simp,rfl⟩
 |c::l=>by
  by_cases h:c=10
  ·subst h
   refine .inr ⟨[],l,by simp,rfl,?_⟩
   unfold Lib.index
   rw[pre10,decide_eq_true rfl,if_pos rfl]
   rfl
  ·have e:Lib.index (c::l) [10]=if Lib.index l [10]== -1 then-1 else Lib.index l [10]+1:=by
    conv=>lhs;unfold Lib.index
    rw[pre10,decide_eq_false h,if_neg (by simp)]
   rcases Zl1 l with ⟨h1,h2⟩| ⟨a,b,h1,h2,h3⟩
   ·refine .inl ⟨by simp[h1,Ne.symm h],?_⟩
    rw[e,h2]
    decide
   ·refine .inr ⟨c::a,b,by simp[h1,Ne.symm h],by rw[h2];rfl,?_⟩
    rw[e,h3,if_neg (show¬(((a.length:Nat):Int)== -1)=true by rw[beq_iff_eq];omega),List.length_cons]
    omega
theorem ZfJ: ∀a:List UInt8,¬(10:UInt8)∈a→Zbs a=[a]
 | [],_=>rfl
 |c::a,h=>by
  have hc: ¬c=10:=fun e=>h (by rw[e];exact List.mem_cons_self)
  rw[Zbs,if_neg hc,ZfJ a fun e=>h (List.mem_cons_of_mem _ e)]
  rfl
theorem ZgG: ∀a b:List UInt8,¬(10:UInt8)∈a→Zbs (a++10::b)=a::Zbs b
 | [],b,_=>by rw[List.nil_append,Zbs,if_pos rfl]
 |c::a,b,h=>by
  have hc: ¬c=10:=fun e=>h (by rw[e];exact List.mem_cons_self)
  rw[List.cons_append,Zbs,if_neg hc,ZgG a b fun e=>h (List.mem_cons_of_mem _ e)]
  rfl
theorem Zlx: ∀a:List UInt8,Zbs a≠ []
 | []=>by simp[Zbs]
 |c::a=>by
  unfold Zbs
  split
  ·simp
  ·cases Zbs a<;>simp[Zo1]
theorem Zsn: ∀(n:Nat) (l:List UInt8),l.length≤n→Lib.splitK [10] 0 (Lib.count l [10]) l=Zbs l:=by
 intro n
 induction n with
 |zero=>
  intro l h
  obtain rfl:l=[]:=List.length_eq_zero_iff.1 (by omega)
  rfl
 |succ n ih=>
  intro l h
  rcases Zl1 l with ⟨h1,h2⟩| ⟨a,b,h1,h2,h3⟩
  ·rw[Lib.count_miss h2,ZfJ l h1]
   rfl
  ·have ed:l.drop (a.length+1)=b:=by rw[h2,show a.length+1=(a++[10]).length by simp,show a++10::b=(a++[10])++b by simp,List.drop_left]
   have et:l.take a.length=a:=by rw[h2,List.take_left]
   rw[Lib.count_hit (by simp) h3,Nat.add_comm]
   conv=>lhs;unfold Lib.splitK
   rw[if_neg (show¬(Lib.index l [10]== -1)=true by rw[h3,beq_iff_eq];omega),h3,Int.toNat_natCast,Nat.add_zero,et]
   show a::Lib.splitK [10] 0 (Lib.count (l.drop (a.length+1)) [10]) (l.drop (a.length+1))=_
   rw[ed,ih b (by rw[h2]at h;simp at h;omega),h2,ZgG a b h1]
theorem ZtC (s sep:ByteArray) (h:sep.data.toList=[10]):(Lib.splitB sep 0 (Lib.countB s sep) s).map (fun b:ByteArray=>b.data.toList)=Zbs s.data.toList:=by
 rw[Lib.splitB_data]
 show Lib.splitK _ 0 (Lib.count _ _) _=_
 rw[h]
 exact Zsn _ _ (Nat.le_refl _)
def Zcg (l:List UInt8):List (List UInt8):=if (Zbs l).getLast? =some []then (Zbs l).dropLast else Zbs l
theorem ZjB {a:List UInt8} (h: ¬(10:UInt8)∈a):Zcg a=if a=[]then []else [a]:=by
 unfold Zcg
 rw[ZfJ a h]
 by_cases e:a=[]
 ·subst e;rfl
 ·simp[e]
theorem Zlj {a:List UInt8} (b:List UInt8) (h: ¬(10:UInt8)∈a):Zcg (a++10::b)=a::Zcg b:=by
 unfold Zcg
 rw[ZgG a b h]
 have hn:=Zlx b
 generalize Zbs b=t at hn⊢
 cases t with
 |nil=>exact absurd rfl hn
 |cons x t=>
  rw[List.getLast?_cons_cons]
  split
  ·rw[List.dropLast_cons_of_ne_nil (by simp)]
  ·rfl
theorem Zqp: ∀(n:Nat) (l:List UInt8),l.length≤n→(Zcg l).length≤l.length∧ ∀x,x∈Zcg l→x.length≤l.length:=by
 intro n
 induction n with
 |zero=>
  intro l h
  obtain rfl:l=[]:=List.length_eq_zero_iff.1 (by omega)
  exact ⟨Nat.le_refl _,fun x hx=>by cases hx⟩
 |succ n ih=>
  intro l h
  rcases Zl1 l with ⟨h1,_⟩| ⟨a,b,h1,h2,_⟩
  ·rw[ZjB h1]
   split
   ·exact ⟨Nat.zero_le _,fun x hx=>by cases hx⟩
   ·rename_i e
    have:0<l.length:=List.length_pos_iff.2 e
    exact ⟨by simp;omega,fun x hx=>by rw[List.mem_singleton.1 hx];exact Nat.le_refl _⟩
  ·rw[h2,Zlj b h1]
   obtain ⟨i1,i2⟩:=ih b (by rw[h2]at h;simp at h;omega)
   refine ⟨by simp;omega,fun x hx=> ?_⟩
   rcases List.mem_cons.1 hx with rfl|hx
   ·simp
   ·have:=i2 x hx
    simp;omega
theorem Zja: ∀(l:List UInt8) (acc:Nat),l.all Zfv=true→Lib.decFrom acc l=some (l.foldl Ze4 acc)
 | [],_,_=>rfl
 |c::l,acc,h=>by
  rw[List.all_cons,Bool.and_eq_true]at h
  obtain ⟨h1,h2⟩:=h
  have hd:48≤c.toNat∧c.toNat≤57:=by
   unfold Zfv at h1
   rw[Bool.and_eq_true,decide_eq_true_iff,decide_eq_true_iff]at h1
   exact h1
  rw[Lib.decFrom,Lib.digitVal,if_pos hd]
  show Lib.decFrom (acc*10+(c.toNat-48)) l=_
  rw[Zja l _ h2,List.foldl_cons,Ze4,Nat.mul_comm]
theorem Zul (n:Nat):(Lib.decDigits n).all Zfv=true:=List.all_eq_true.2 fun c hc=>by
 obtain ⟨h1,h2⟩:=Zjb n c hc
 unfold Zfv
 rw[decide_eq_true h1,decide_eq_true h2];rfl
theorem ZsM {n:Nat} (h:n<100000):Lib.atoiAll (Lib.decDigits n)= .ok (n:Int):=by
 obtain ⟨a,b⟩:=ZnY 4 n h
 rw[Lib.atoiAll_short _ (by omega)]
 have hv:Lib.decFrom 0 (Lib.decDigits n)=some n:=by
  rw[Zja _ _ (Zul n)]
  exact congrArg some (ZsD n)
 have hd:=Zjb n
 generalize Lib.decDigits n=l at a b hv hd⊢
 cases l with
 |nil=>simp at b
 |cons c l=>
  obtain ⟨h1,h2⟩:=hd c List.mem_cons_self
  have e1:(c==45)=false:=by rw[beq_eq_false_iff_ne];rintro rfl;simp at h1
  have e2:(c==43)=false:=by rw[beq_eq_false_iff_ne];rintro rfl;simp at h1
  rw[Lib.atoi,e1,e2,if_neg (by simp),if_neg (by simp),Lib.decNat,List.isEmpty_cons,if_neg (by simp),hv]
  rfl
theorem Zo4 (n:Nat):Lib.itoa (n:Int)=Lib.decDigits n:=by
 unfold Lib.itoa
 rw[if_neg (by omega),Int.toNat_natCast]

end Go.Proofs.YtmlahgmhbdpkjaaGreatDoor.Plain
