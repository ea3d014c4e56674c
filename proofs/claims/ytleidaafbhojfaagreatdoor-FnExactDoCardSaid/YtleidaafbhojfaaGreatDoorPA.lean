/- Plain laws of the printed functions: Cp, Obs, Lock, Ok, Ok2, Ok3, Copies, Bytes, Cpu. No condition beyond those that each lemma states. -/
import Derived.Test.YtleidaafbhojfaaGreatDoorX
import Derived.Test.YtleidaafbhojfaaGreatDoorFn2
set_option linter.unusedVariables false
set_option linter.unusedSimpArgs false
namespace Go.Proofs.YtleidaafbhojfaaGreatDoor.Plain
open Go Go.Tev
theorem ZmA (l:List Int) (hl:l.length≤4398046511104): ∀(k i:Nat) (out:List Int),i≤l.length→out.length=l.length→l.length-i<k→
  n32_0 k (l,()) () ((i:Int),(out,()))=some (Sum.inl ((l.length:Int),(out.take i++l.drop i,())),())
 |0,_,_,_,_,h=>absurd h (by omega)
 |k+1,i,out,hi,ho,hk=>by
  unfold n32_0 w32_0
  simp only[Zad]
  by_cases h:i<l.length
  ·rw[Zaj (by omega),Zay (by omega),Zaj (by omega),ZaA .i l i h,ZaL (by omega)]
   simp only[cond_true,Int.toNat_natCast]
   rw[ZmA l hl k (i+1) _ (by omega) (by simpa using ho) (by omega),ZoL h ho]
  ·have:i=l.length:=by omega
   subst this
   rw[Zam (by omega),cond_false,List.take_of_length_le (by omega),List.drop_length,List.append_nil]
theorem Zev (l:List Int) (hl:l.length≤4398046511104):r32 (l,())=some ((l,()),()):=by
 unfold r32 m32 L32_0
 simp only[Zad,Int.toNat_natCast]
 rw[Zbn (by simp only[E.most];omega)]
 have:=ZmA l hl fuel 0 (List.replicate l.length 0) (by omega) (by simp) (by have:=Zaq;omega)
 simp only[Int.natCast_zero]at this
 simp only[cond_true,this]
 simp[Zai]
def bulk:List (List Int)→Nat| []=>0|l::f=>l.length+bulk f
def small (f:List (List Int)):Prop:=f.length≤4398046511104∧(∀l,l∈f→l.length≤4398046511104)∧bulk f≤4398046511104
theorem Zks (l:List (List Int)) (hl:small l): ∀(k i:Nat) (out:List (List Int)),i≤l.length→out.length=l.length→l.length-i<k→
  n107_0 r32 k (l,()) () ((i:Int),(out,()))=some (Sum.inl ((l.length:Int),(out.take i++l.drop i,())),())
 |0,_,_,_,_,h=>absurd h (by omega)
 |k+1,i,out,hi,ho,hk=>by
  unfold n107_0 w107_0
  simp only[Zad]
  have:=hl.1
  by_cases h:i<l.length
  ·rw[Zaj (by omega),Zay (by omega),Zaj (by omega),ZaA .n l i h,ZaL (by omega),Zev _ (hl.2.1 _ (List.getElem_mem h))]
   simp only[cond_true,Int.toNat_natCast,Option.bind_some]
   rw[Zks l hl k (i+1) _ (by omega) (by simpa using ho) (by omega),ZoL h ho]
  ·have:i=l.length:=by omega
   subst this
   rw[Zam (by omega),cond_false,List.take_of_length_le (by omega),List.drop_length,List.append_nil]
theorem ZnP (l:List (List Int)) (hl:small l):r107 (l,())=some ((l,()),()):=by
 unfold r107 m107 L107_0
 simp only[Zad,Int.toNat_natCast]
 have:=hl.1
 rw[Zbn (by simp only[E.most];omega)]
 have:=Zks l hl fuel 0 (List.replicate l.length []) (by omega) (by simp) (by have:=Zaq;omega)
 simp only[Int.natCast_zero]at this
 simp only[cond_true,this]
 simp[Zai]
theorem Zli (a b:List Int) (h1:a.length≤4398046511104) (hab:a.length=b.length): ∀(k i:Nat),i≤a.length→a.length-i<k→
  n47_0 k (a,(b,())) () ((i:Int),())=if a.drop i=b.drop i then some (Sum.inl ((a.length:Int),()),())else some (Sum.inr (false,()),())
 |0,_,_,h=>absurd h (by omega)
 |k+1,i,hi,hk=>by
  unfold n47_0 w47_0
  simp only[Zad]
  by_cases h:i<a.length
  ·have hb:i<b.length:=by omega
   rw[Zaj (by omega),Zay (by omega),Zaj (by omega),ZaA .i a i h,ZaA .i b i hb,ZaL (by omega)]
   simp only[cond_true]
   rw[ZaQ h,ZaQ hb]
   by_cases hx:a[i]=b[i]
   ·rw[ZcN hx,cond_false,Zli a b h1 hab k (i+1) (by omega) (by omega)]
    simp only[List.cons.injEq,hx,true_and]
   ·rw[Zdg hx,cond_true]
    simp only[List.cons.injEq,hx,false_and,if_false]
  ·have:i=a.length:=by omega
   subst this
   rw[Zam (by omega)]
   simp[hab]
theorem Zfp (a b:List Int) (h1:a.length≤4398046511104):r47 (a,(b,()))=some ((decide (a=b),()),()):=by
 unfold r47 m47 L47_0
 simp only[Zad]
 by_cases h:a.length=b.length
 ·have:=Zli a b h1 h fuel 0 (by omega) (by have:=Zaq;omega)
  simp only[Int.natCast_zero,List.drop_zero]at this
  rw[ZcN (by omega),cond_false,this]
  by_cases e:a=b<;>simp[e,Zai]
 ·rw[Zdg (by omega),cond_true]
  rw[show decide (a=b)=false from decide_eq_false (fun e=>h (by rw[e]))]
theorem Zj8 (a b:List (List Int)) (h1:small a) (hab:a.length=b.length): ∀(k i:Nat),i≤a.length→a.length-i<k→
  n125_0 r47 k (a,(b,())) () ((i:Int),())=if a.drop i=b.drop i then some (Sum.inl ((a.length:Int),()),())else some (Sum.inr (false,()),())
 |0,_,_,h=>absurd h (by omega)
 |k+1,i,hi,hk=>by
  unfold n125_0 w125_0
  simp only[Zad]
  have:=h1.1
  by_cases h:i<a.length
  ·have hb:i<b.length:=by omega
   rw[Zaj (by omega),Zay (by omega),Zaj (by omega),ZaA .n a i h,ZaA .n b i hb,ZaL (by omega),Zfp _ _ (h1.2.1 _ (List.getElem_mem h))]
   simp only[cond_true,Option.bind_some]
   rw[ZaQ h,ZaQ hb]
   by_cases hx:a[i]=b[i]
   ·rw[show (!decide (a[i]=b[i]))=false by simp[hx],cond_false,Zj8 a b h1 hab k (i+1) (by omega) (by omega)]
    simp only[List.cons.injEq,hx,true_and]
   ·rw[show (!decide (a[i]=b[i]))=true by simpa using hx,cond_true]
    simp only[List.cons.injEq,hx,false_and,if_false]
  ·have:i=a.length:=by omega
   subst this
   rw[Zam (by omega)]
   simp[hab]
theorem Zng (a b:List (List Int)) (h1:small a):r125 (a,(b,()))=some ((decide (a=b),()),()):=by
 unfold r125 m125 L125_0
 simp only[Zad]
 have:=h1.1
 by_cases h:a.length=b.length
 ·have:=Zj8 a b h1 h fuel 0 (by omega) (by have:=Zaq;omega)
  simp only[Int.natCast_zero,List.drop_zero]at this
  rw[ZcN (by omega),cond_false,this]
  by_cases e:a=b<;>simp[e,Zai]
 ·rw[Zdg (by omega),cond_true]
  rw[show decide (a=b)=false from decide_eq_false (fun e=>h (by rw[e]))]
def left (n:Int) (k:Nat):Int:=if n< (k:Int)then-1 else n-(k:Int)
theorem Zqc (a:List Int) (n:Int) (h0:0≤n) (h1:n≤1048576) (hl:a.length≤maxLen):r19 (a,(n,()))=some ((left n a.length,()),()):=by
 unfold r19 m19
 simp only[Zad]
 have:maxLen=9223372036854775807:=rfl
 rw[Zas (by omega) (by omega)]
 by_cases h:n< (a.length:Int)
 ·rw[Zaj (show n-(a.length:Int)<0 by omega)];simp[left,h]
 ·rw[Zam (by omega)];simp[left,h]
theorem Zkq (a:List (List Int)) (hw: ∀l,l∈a→l.length≤maxLen): ∀(k i:Nat) (n:Int),a.length≤4398046511104→i≤a.length→a.length-i<k→0≤n→n≤1048576→
  n89_0 r19 k (a,()) () (n,((i:Int),()))=if n< (bulk (a.drop i):Int)then some (Sum.inr (-1,()),())else some (Sum.inl (n-(bulk (a.drop i):Int),((a.length:Int),())),())
 |0,_,_,_,_,h,_,_=>absurd h (by omega)
 |k+1,i,n,ha,hi,hk,h0,h1=>by
  unfold n89_0 w89_0
  simp only[Zad]
  by_cases h:i<a.length
  ·rw[Zaj (by omega),Zay (by omega),ZaA .n a i h,ZaL (by omega),Zqc _ n h0 h1 (hw _ (List.getElem_mem h))]
   simp only[cond_true,Option.bind_some,ZaQ h,bulk]
   by_cases hx:n< (a[i].length:Int)
   ·simp only[left,hx,if_true]
    rw[if_pos (by omega)]
    rfl
   ·simp only[left,hx,if_false]
    rw[Zam (by omega),cond_false,Zkq a hw k (i+1) _ ha (by omega) (by omega) (by omega) (by omega)]
    by_cases hy:n< (a[i].length:Int)+(bulk (a.drop (i+1)):Int)
    ·rw[if_pos (by omega),if_pos (by omega)]
    ·rw[if_neg (by omega),if_neg (by omega)]
     simp only[Option.some.injEq,Prod.mk.injEq,Sum.inl.injEq,and_true]
     omega
  ·have:i=a.length:=by omega
   subst this
   rw[Zam (by omega)]
   simp[bulk]
   omega
theorem ZtB (a:List (List Int)) (n:Int) (h0:0≤n) (h1:n≤1048576) (hl:a.length≤maxLen) (hw: ∀l,l∈a→l.length≤maxLen):
  r89 (a,(n,()))=some ((left n (a.length+bulk a),()),()):=by
 unfold r89 m89 L89_0
 simp only[Zad]
 have:maxLen=9223372036854775807:=rfl
 rw[Zas (by omega) (by omega)]
 by_cases h:n< (a.length:Int)
 ·rw[Zaj (show n-(a.length:Int)<0 by omega),cond_true]
  simp only[left]
  rw[if_pos (by omega)]
 ·rw[Zam (by omega),cond_false]
  have:=Zkq a hw fuel 0 (n-(a.length:Int)) (by omega) (by omega) (by have:=Zaq;omega) (by omega) (by omega)
  simp only[Int.natCast_zero,List.drop_zero]at this
  rw[this]
  by_cases hy:n< (a.length:Int)+(bulk a:Int)
  ·rw[if_pos (by omega)]
   simp only[Option.bind_some,Zai,left]
   rw[if_pos (by omega)]
  ·rw[if_neg (by omega)]
   simp only[Option.bind_some,Zai,left]
   rw[if_neg (by omega)]
   simp only[Option.some.injEq,Prod.mk.injEq,and_true]
   show n-(a.length:Int)-(bulk a:Int)=n-((a.length+bulk a:Nat):Int)
   omega
theorem Zrz: ∀{f:List (List Int)} {l:List Int},l∈f→l.length≤bulk f
 |x::f,l,h=>by
  cases h with
  |head=>simp only[bulk];omega
  |tail _ h=>have:=Zrz h;simp only[bulk];omega
theorem Zk2 (a b:List Int) (h1:a.length≤4398046511104): ∀(k i:Nat),i≤a.length→i≤b.length→a.length-i<k→
  n291_0 k (a,(b,())) () ((i:Int),())=if (a.drop i).take (b.length-i)=(b.drop i).take (a.length-i)then some (Sum.inl (((min a.length b.length:Nat):Int),()),())else some (Sum.inr (false,()),())
 |0,_,_,_,h=>absurd h (by omega)
 |k+1,i,hi,hj,hk=>by
  unfold n291_0 w291_0
  simp only[Zad]
  by_cases h:i<a.length
  ·rw[Zaj (show (i:Int)< (a.length:Int) by omega)]
   by_cases hb:i<b.length
   ·rw[Zaj (by omega),Zay (by omega),ZaA .i a i h,ZaA .i b i hb,ZaL (by omega)]
    simp only[cond_true]
    rw[ZaQ h,ZaQ hb,show b.length-i=(b.length-(i+1))+1 by omega,show a.length-i=(a.length-(i+1))+1 by omega,List.take_succ_cons,List.take_succ_cons]
    by_cases hx:a[i]=b[i]
    ·rw[ZcN hx,cond_false,Zk2 a b h1 k (i+1) (by omega) (by omega) (by omega)]
     simp only[List.cons.injEq,hx,true_and]
    ·rw[Zdg hx,cond_true]
     simp only[List.cons.injEq,hx,false_and,if_false]
   ·have:i=b.length:=by omega
    subst this
    rw[Zam (by omega),cond_true,cond_false]
    simp only[Nat.sub_self,List.take_zero,List.drop_length,List.take_nil,if_true]
    rw[show min a.length b.length=b.length by omega]
  ·have:i=a.length:=by omega
   subst this
   rw[Zam (by omega),cond_false]
   simp only[Nat.sub_self,List.take_zero,List.drop_length,List.take_nil,if_true]
   rw[show min a.length b.length=a.length by omega]
def beg {α:Type} [DecidableEq α] (a b:List α):Bool:=decide (a.length≤b.length∧a=b.take a.length)
theorem Zk3 (a b:List Int) (h1:a.length≤4398046511104):r291 (a,(b,()))=some ((beg a b,()),()):=by
 unfold r291 m291 L291_0
 simp only[Zad]
 have:=Zk2 a b h1 fuel 0 (by omega) (by omega) (by have:=Zaq;omega)
 simp only[Int.natCast_zero,List.drop_zero,Nat.sub_zero]at this
 rw[this]
 by_cases e:a.take b.length=b.take a.length
 ·rw[if_pos e]
  simp only[Option.bind_some,Zai,ZyG,beg]
  by_cases hl:a.length≤b.length
  ·rw[List.take_of_length_le hl]at e
   rw[decide_eq_true (show (a.length:Int)≤(b.length:Int) by omega),decide_eq_true ⟨hl,e⟩]
  ·rw[decide_eq_false (show¬(a.length:Int)≤(b.length:Int) by omega),decide_eq_false (fun h=>hl h.1)]
 ·rw[if_neg e]
  simp only[Option.bind_some,Zai,beg]
  rw[decide_eq_false]
  rintro ⟨hl,h⟩
  rw[List.take_of_length_le hl]at e
  exact e h
theorem ZtU {α:Type} [DecidableEq α] {a b:List α} (h:a.length=b.length):beg a b=decide (a=b):=by
 unfold beg
 congr 1
 rw[eq_iff_iff]
 constructor
 ·rintro ⟨_,e⟩
  rw[e,h,List.take_length]
 ·rintro rfl
  simp
theorem ZjS (a b:List Int) (h1:a.length≤4398046511104):r233 (a,(b,()))=some ((decide (a=b),()),()):=by
 unfold r233 m233
 simp only[Zad]
 by_cases h:a.length=b.length
 ·rw[Zao (by omega),cond_true,Zk3 a b h1,ZtU h]
  rfl
 ·rw[Zag (by omega),cond_false,decide_eq_false (fun e=>h (by rw[e]))]
theorem Znh (a b:List Int) (h1:a.length≤4398046511104) (hab:a.length=b.length): ∀(k i:Nat),i≤a.length→a.length-i<k→
  n149_0 k (a,(b,((a.length:Int),()))) () ((i:Int),())=if a.drop i=b.drop i then some (Sum.inl ((a.length:Int),()),())else some (Sum.inr (false,()),())
 |0,_,_,h=>absurd h (by omega)
 |k+1,i,hi,hk=>by
  unfold n149_0 w149_0
  simp only[Zad]
  by_cases h:i<a.length
  ·have hb:i<b.length:=by omega
   rw[Zaj (by omega),Zay (by omega),Zaj (by omega),ZaA .i a i h,ZaA .i b i hb,ZaL (by omega)]
   simp only[cond_true]
   rw[ZaQ h,ZaQ hb]
   by_cases hx:a[i]=b[i]
   ·rw[ZcN hx,cond_false,Znh a b h1 hab k (i+1) (by omega) (by omega)]
    simp only[List.cons.injEq,hx,true_and]
   ·rw[Zdg hx,cond_true]
    simp only[List.cons.injEq,hx,false_and,if_false]
  ·have:i=a.length:=by omega
   subst this
   rw[Zam (by omega)]
   simp[hab]
theorem ZfO (a b:List Int) (h1:a.length≤4398046511104):r149 (a,(b,()))=some ((decide (a=b),()),()):=by
 unfold r149 m149 L149_0
 simp only[Zad]
 by_cases h:a.length=b.length
 ·have:=Znh a b h1 h fuel 0 (by omega) (by have:=Zaq;omega)
  simp only[Int.natCast_zero,List.drop_zero]at this
  rw[ZcN (by omega),cond_false,this]
  by_cases e:a=b<;>simp[e,Zai]
 ·rw[Zdg (by omega),cond_true]
  rw[show decide (a=b)=false from decide_eq_false (fun e=>h (by rw[e]))]
theorem Zll (a b:List (List Int)) (h1:small a) (hab:a.length=b.length): ∀(k i:Nat),i≤a.length→a.length-i<k→
  n286_0 r287 k (b,((),(a,((a.length:Int),())))) () ((i:Int),())=if a.drop i=b.drop i then some (Sum.inl ((a.length:Int),()),())else some (Sum.inr (false,()),())
 |0,_,_,h=>absurd h (by omega)
 |k+1,i,hi,hk=>by
  unfold n286_0 w286_0
  simp only[Zad]
  have:=h1.1
  by_cases h:i<a.length
  ·have hb:i<b.length:=by omega
   rw[Zaj (by omega),Zay (by omega),Zaj (by omega),ZaA .n a i h,ZaA .n b i hb,ZaL (by omega)]
   rw[show r287 (a[i],(b[i],()))=some ((decide (a[i]=b[i]),()),()) by
    unfold r287 m287
    rw[ZfO _ _ (h1.2.1 _ (List.getElem_mem h))]
    rfl]
   simp only[cond_true,Option.bind_some]
   rw[ZaQ h,ZaQ hb]
   by_cases hx:a[i]=b[i]
   ·rw[show (!decide (a[i]=b[i]))=false by simp[hx],cond_false,Zll a b h1 hab k (i+1) (by omega) (by omega)]
    simp only[List.cons.injEq,hx,true_and]
   ·rw[show (!decide (a[i]=b[i]))=true by simpa using hx,cond_true]
    simp only[List.cons.injEq,hx,false_and,if_false]
  ·have:i=a.length:=by omega
   subst this
   rw[Zam (by omega)]
   simp[hab]
theorem Zue (a b:List (List Int)) (h1:small a):r286 (a,(b,((),())))=some ((decide (a=b),()),()):=by
 unfold r286 m286 L286_0
 simp only[Zad]
 have:=h1.1
 by_cases h:a.length=b.length
 ·have:=Zll a b h1 h fuel 0 (by omega) (by have:=Zaq;omega)
  simp only[Int.natCast_zero,List.drop_zero]at this
  rw[ZcN (by omega),cond_false,this]
  by_cases e:a=b<;>simp[e,Zai]
 ·rw[Zdg (by omega),cond_true]
  rw[show decide (a=b)=false from decide_eq_false (fun e=>h (by rw[e]))]
theorem Zlu (a b:Tup [.sl false .n, .sl false .i, .sl false .i]) (h1:small a.1) (hab:a.1.length≤b.1.length): ∀(k i:Nat),i≤a.1.length→a.1.length-i<k→
  n234_0 r291 r233 k () (a,(b,())) ((i:Int),())=if a.1.drop i=(b.1.drop i).take (a.1.length-i)then some (Sum.inl ((a.1.length:Int),()),(a,(b,())))else some (Sum.inr (false,()),(a,(b,())))
 |0,_,_,h=>absurd h (by omega)
 |k+1,i,hi,hk=>by
  unfold n234_0 w234_0
  simp only[Zad]
  have:=h1.1
  by_cases h:i<a.1.length
  ·have hb:i<b.1.length:=by omega
   rw[Zaj (show (i:Int)< (a.1.length:Int) by omega),Zay (by omega),Zaj (show (i:Int)< (b.1.length:Int) by omega),ZaA .n a.1 i h,ZaA .n b.1 i hb,ZaL (by omega),ZjS _ _ (h1.2.1 _ (List.getElem_mem h))]
   simp only[cond_true,Option.bind_some]
   rw[ZaQ h,ZaQ hb,show a.1.length-i=(a.1.length-(i+1))+1 by omega,List.take_succ_cons]
   by_cases hx:a.1[i]=b.1[i]
   ·rw[show (!decide (a.1[i]=b.1[i]))=false by simp[hx],cond_false,Zlu a b h1 hab k (i+1) (by omega) (by omega)]
    simp only[List.cons.injEq,hx,true_and]
   ·rw[show (!decide (a.1[i]=b.1[i]))=true by simpa using hx,cond_true]
    simp only[List.cons.injEq,hx,false_and,if_false]
  ·have:i=a.1.length:=by omega
   subst this
   rw[Zam (by omega)]
   simp
abbrev obsL:List LT:=[.sl false .n, .sl false .i, .sl false .i]
def Zq1 (a:Tup obsL):Prop:=small a.1∧a.2.1.length≤4398046511104∧a.2.2.1.length≤4398046511104
def Zfz (a b:Tup obsL):Bool:=beg a.1 b.1&&(beg a.2.1 b.2.1&&beg a.2.2.1 b.2.2.1)
def Zor (a b:Tup obsL):Bool:=decide (a.1=b.1)&&(decide (a.2.1=b.2.1)&&decide (a.2.2.1=b.2.2.1))
theorem Zf5 (a b:Tup obsL) (ha:Zq1 a):r234 (a,(b,()))=some ((Zfz a b,()),()):=by
 unfold r234 m234 L234_0
 obtain ⟨h1,h2,h3⟩:=ha
 simp only[Zad]
 have:=h1.1
 by_cases h:b.1.length<a.1.length
 ·rw[Zaj (by omega),cond_true]
  have:beg a.1 b.1=false:=decide_eq_false (fun hh=>by omega)
  simp only[Zfz,this,Bool.false_and]
 ·rw[Zam (by omega),cond_false,Zk3 _ _ h2]
  simp only[Option.bind_some,Zfz]
  cases e1:beg a.2.1 b.2.1 with
  |false=>simp
  |true=>
   simp only[Bool.not_true,cond_false]
   rw[Zk3 _ _ h3]
   simp only[Option.bind_some]
   cases e2:beg a.2.2.1 b.2.2.1 with
   |false=>simp
   |true=>
    have:=Zlu a b h1 (by omega) fuel 0 (by omega) (by have:=Zaq;omega)
    simp only[Int.natCast_zero,List.drop_zero,Nat.sub_zero]at this
    simp only[Bool.not_true,cond_false,this,Bool.and_true]
    by_cases e:a.1=b.1.take a.1.length
    ·rw[if_pos e]
     simp only[Option.bind_some,Zai,beg]
     rw[decide_eq_true ⟨by omega,e⟩]
    ·rw[if_neg e]
     simp only[Option.bind_some,Zai,beg]
     rw[decide_eq_false (fun hh=>e hh.2)]
theorem ZnY {α:Type} [DecidableEq α] (a b:List α):(beg a b&&beg b a)=decide (a=b):=by
 by_cases h:a.length=b.length
 ·rw[ZtU h,ZtU h.symm]
  by_cases e:a=b
  ·subst e;simp
  ·simp[e]
 ·rw[show decide (a=b)=false from decide_eq_false (fun e=>h (by rw[e]))]
  rcases Nat.lt_or_gt_of_ne h with h|h
  ·rw[show beg b a=false from decide_eq_false (fun hh=>by omega),Bool.and_false]
  ·rw[show beg a b=false from decide_eq_false (fun hh=>by omega),Bool.false_and]
theorem ZqZ (a b:Tup obsL):(Zfz a b&&Zfz b a)=Zor a b:=by
 unfold Zfz Zor
 rw[←ZnY a.1 b.1,←ZnY a.2.1 b.2.1,←ZnY a.2.2.1 b.2.2.1]
 cases beg a.1 b.1<;>cases beg b.1 a.1<;>cases beg a.2.1 b.2.1<;>cases beg b.2.1 a.2.1<;>simp
theorem Zrl (a b:Tup obsL) (ha:Zq1 a) (hb:Zq1 b):r293 (a,(b,()))=some ((Zor a b,()),()):=by
 unfold r293 m293
 rw[Zf5 a b ha]
 simp only[Option.bind_some]
 rw[←ZqZ]
 cases e:Zfz a b with
 |false=>simp
 |true=>rw[cond_true,Zf5 b a hb];simp
theorem ZlI (a b:Tup obsL) (ha:Zq1 a):r217 (a,(b,()))=some ((Zor a b,()),()):=by
 unfold r217 m217
 obtain ⟨h1,h2,h3⟩:=ha
 rw[Zue _ _ h1]
 simp only[Option.bind_some,Zor]
 by_cases e1:a.1=b.1
 ·rw[decide_eq_true e1,cond_true,ZfO _ _ h2]
  simp only[Option.bind_some]
  by_cases e2:a.2.1=b.2.1
  ·rw[decide_eq_true e2,cond_true,ZfO _ _ h3]
   simp
  ·rw[decide_eq_false e2]
   simp
 ·rw[decide_eq_false e1]
  simp
theorem ZnZ {α:Type} [DecidableEq α] (a b:List α) (h:a.length≤b.length):decide (a=b.take a.length)=beg a b:=by
 unfold beg
 congr 1
 rw[eq_iff_iff]
 exact ⟨fun e=>⟨h,e⟩,fun e=>e.2⟩
theorem Zog (a b:Tup obsL) (ha:Zq1 a):r150 (a,(b,()))=some ((Zfz a b,()),()):=by
 unfold r150 m150
 simp only[Zad,Int.toNat_natCast]
 by_cases h1:b.1.length<a.1.length
 ·rw[Zaj (by omega),cond_true]
  simp[Zfz,show beg a.1 b.1=false from decide_eq_false (fun hh=>by omega)]
 rw[Zam (by omega),cond_false]
 by_cases h2:b.2.1.length<a.2.1.length
 ·rw[Zaj (by omega),cond_true]
  simp[Zfz,show beg a.2.1 b.2.1=false from decide_eq_false (fun hh=>by omega)]
 rw[Zam (by omega),cond_false]
 by_cases h3:b.2.2.1.length<a.2.2.1.length
 ·rw[Zaj (by omega),cond_true]
  simp[Zfz,show beg a.2.2.1 b.2.2.1=false from decide_eq_false (fun hh=>by omega)]
 rw[Zam (by omega),cond_false,Zay (by omega),Zay (by omega),Zay (by omega)]
 simp only[cond_true]
 rw[ZlI _ _ ha]
 simp only[Option.bind_some,Zor,Zfz]
 rw[ZnZ _ _ (by omega),ZnZ _ _ (by omega),ZnZ _ _ (by omega)]
abbrev memL:List LT:=[.sl false .i, .int .i64]
abbrev cpuL:List LT:=[.int .i64, .int .i64, .int .i64, .int .i64, .bool, .bool, .bool, .bool]
abbrev ppuL:List LT:=[.int .i64, .int .i64, .int .i64, .int .i64, .int .i64, .bool, .sl false .i, .sl false .i]
abbrev apuL:List LT:=[.int .i64, .int .i64, .int .i64, .int .i64, .int .i64, .bool, .bool]
abbrev padL:List LT:=[.bool, .int .i64]
abbrev Zih:List LT:= .sl false .n:: .sl false .i::(memL++(cpuL++(ppuL++(apuL++(padL++(.bool:: .int .i64::obsL))))))
def Zer (a:Tup ppuL):Prop:=a.2.2.2.2.2.2.1.length≤4398046511104∧a.2.2.2.2.2.2.2.1.length≤4398046511104
section
variable (a:Tup Zih)
abbrev ZyH:List (List Int):=a.1
abbrev Zyo:List Int:=a.2.1
abbrev Zd1:Tup memL:=(a.2.2.1,(a.2.2.2.1,()))
abbrev ZkC:Tup cpuL:=(a.2.2.2.2.1,(a.2.2.2.2.2.1,(a.2.2.2.2.2.2.1,(a.2.2.2.2.2.2.2.1,(a.2.2.2.2.2.2.2.2.1,(a.2.2.2.2.2.2.2.2.2.1,(a.2.2.2.2.2.2.2.2.2.2.1,(a.2.2.2.2.2.2.2.2.2.2.2.1,()))))))))
abbrev ZhF:Tup ppuL:=(a.2.2.2.2.2.2.2.2.2.2.2.2.1,(a.2.2.2.2.2.2.2.2.2.2.2.2.2.1,(a.2.2.2.2.2.2.2.2.2.2.2.2.2.2.1,(a.2.2.2.2.2.2.2.2.2.2.2.2.2.2.2.1,(a.2.2.2.2.2.2.2.2.2.2.2.2.2.2.2.2.1,(a.2.2.2.2.2.2.2.2.2.2.2.2.2.2.2.2.2.1,(a.2.2.2.2.2.2.2.2.2.2.2.2.2.2.2.2.2.2.1,(a.2.2.2.2.2.2.2.2.2.2.2.2.2.2.2.2.2.2.2.1,()))))))))
abbrev ZqS:Tup apuL:=(a.2.2.2.2.2.2.2.2.2.2.2.2.2.2.2.2.2.2.2.2.1,(a.2.2.2.2.2.2.2.2.2.2.2.2.2.2.2.2.2.2.2.2.2.1,(a.2.2.2.2.2.2.2.2.2.2.2.2.2.2.2.2.2.2.2.2.2.2.1,(a.2.2.2.2.2.2.2.2.2.2.2.2.2.2.2.2.2.2.2.2.2.2.2.1,(a.2.2.2.2.2.2.2.2.2.2.2.2.2.2.2.2.2.2.2.2.2.2.2.2.1,(a.2.2.2.2.2.2.2.2.2.2.2.2.2.2.2.2.2.2.2.2.2.2.2.2.2.1,(a.2.2.2.2.2.2.2.2.2.2.2.2.2.2.2.2.2.2.2.2.2.2.2.2.2.2.1,())))))))
abbrev ZiW:Tup padL:=(a.2.2.2.2.2.2.2.2.2.2.2.2.2.2.2.2.2.2.2.2.2.2.2.2.2.2.2.1,(a.2.2.2.2.2.2.2.2.2.2.2.2.2.2.2.2.2.2.2.2.2.2.2.2.2.2.2.2.1,()))
abbrev Zey:Tup obsL:=a.2.2.2.2.2.2.2.2.2.2.2.2.2.2.2.2.2.2.2.2.2.2.2.2.2.2.2.2.2.2.2
end
def Zo5 (a b:Tup cpuL):Bool:=eqI a.1 b.1&&(eqI a.2.1 b.2.1&&(eqI a.2.2.1 b.2.2.1&&(eqI a.2.2.2.1 b.2.2.2.1&&((a.2.2.2.2.1==b.2.2.2.2.1)&&((a.2.2.2.2.2.1==b.2.2.2.2.2.1)&&((a.2.2.2.2.2.2.1==b.2.2.2.2.2.2.1)&&((a.2.2.2.2.2.2.2.1==b.2.2.2.2.2.2.2.1)&&true)))))))
def Zw1 (a b:Tup apuL):Bool:=eqI a.1 b.1&&(eqI a.2.1 b.2.1&&(eqI a.2.2.1 b.2.2.1&&(eqI a.2.2.2.1 b.2.2.2.1&&(eqI a.2.2.2.2.1 b.2.2.2.2.1&&((a.2.2.2.2.2.1==b.2.2.2.2.2.1)&&((a.2.2.2.2.2.2.1==b.2.2.2.2.2.2.1)&&true))))))
def ZmT (a b:Tup padL):Bool:=(a.1==b.1)&&(eqI a.2.1 b.2.1&&true)
def ZqY (a b:Tup memL):Bool:=eqI a.2.1 b.2.1&&decide (a.1=b.1)
def ZuR (a b:Tup ppuL):Bool:=eqI a.1 b.1&&(eqI a.2.1 b.2.1&&(eqI a.2.2.1 b.2.2.1&&(eqI a.2.2.2.1 b.2.2.2.1&&(eqI a.2.2.2.2.1 b.2.2.2.2.1&&((a.2.2.2.2.2.1==b.2.2.2.2.2.1)&&(decide (a.2.2.2.2.2.2.1=b.2.2.2.2.2.2.1)&&decide (a.2.2.2.2.2.2.2.1=b.2.2.2.2.2.2.2.1)))))))
def Zcg (a:Tup Zih):Prop:=small a.1∧a.2.1.length≤4398046511104∧a.2.2.1.length≤4398046511104∧Zer (ZhF a)∧Zq1 (Zey a)
theorem Zny (a b:Tup memL) (h:a.1.length≤4398046511104):r148 (a,(b,()))=some ((ZqY a b,()),()):=by
 unfold r148 m148
 rw[ZfO _ _ h]
 simp only[Option.bind_some,ZaP]
 rfl
theorem Ztn (a b:Tup ppuL) (h:Zer a):r218 (a,(b,()))=some ((ZuR a b,()),()):=by
 unfold r218 m218
 rw[ZfO _ _ h.1]
 rw[show r149 (a.2.2.2.2.2.2.2.1,b.2.2.2.2.2.2.2)=some ((decide (a.2.2.2.2.2.2.2.1=b.2.2.2.2.2.2.2.1),()),())from ZfO _ _ h.2]
 simp only[Option.bind_some,ZaP]
 rfl
theorem Ztv (a b:Tup ppuL) (h:Zer a):r292 (a,(b,()))=some ((ZuR a b,()),()):=by
 unfold r292 m292
 rw[ZjS _ _ h.1]
 rw[show r233 (a.2.2.2.2.2.2.2.1,b.2.2.2.2.2.2.2)=some ((decide (a.2.2.2.2.2.2.2.1=b.2.2.2.2.2.2.2.1),()),())from ZjS _ _ h.2]
 simp only[Option.bind_some,ZaP]
 rfl
def ZrW (a b:Tup Zih):Bool:=
 Zo5 (ZkC a) (ZkC b)&&(Zw1 (ZqS a) (ZqS b)&&(ZmT (ZiW a) (ZiW b)&&((a.2.2.2.2.2.2.2.2.2.2.2.2.2.2.2.2.2.2.2.2.2.2.2.2.2.2.2.2.2.1==b.2.2.2.2.2.2.2.2.2.2.2.2.2.2.2.2.2.2.2.2.2.2.2.2.2.2.2.2.2.1)&&
  (eqI a.2.2.2.2.2.2.2.2.2.2.2.2.2.2.2.2.2.2.2.2.2.2.2.2.2.2.2.2.2.2.1 b.2.2.2.2.2.2.2.2.2.2.2.2.2.2.2.2.2.2.2.2.2.2.2.2.2.2.2.2.2.2.1&&(ZqY (Zd1 a) (Zd1 b)&&(ZuR (ZhF a) (ZhF b)&&Zor (Zey a) (Zey b)))))))
theorem ZlE (a b:Tup Zih) (h:Zcg a):r152 (a,(b,()))=some ((ZrW a b,()),()):=by
 unfold r152 m152
 obtain ⟨_,_,h3,h4,h5⟩:=h
 simp only[Zny (Zd1 a) (Zd1 b) h3,Ztn (ZhF a) (ZhF b) h4,ZlI (Zey a) (Zey b) h5,Option.bind_some,ZaP]
 rfl
def inR (lo hi n:Int):Bool:=leI lo n&&leI n hi
def allR (lo hi:Int) (l:List Int):Bool:=l.all (inR lo hi)
theorem ZbI {lo hi n:Int}:inR lo hi n=true↔lo≤n∧n≤hi:=by simp[inR,leI]
theorem ZbM (y:PTup i87):r87 y=some ((inR y.2.1 y.2.2.1 y.1,()),()):=by
 unfold r87 m87
 simp only[ZaP]
 rfl
theorem ZbV (y:PTup i28):r28 y=some ((inR y.2.1 y.2.2.1 y.1,()),()):=by
 unfold r28 m28
 simp only[ZaP]
 rfl
theorem ZdB (y:PTup i85):r85 y=some ((inR 0 255 y.1,()),()):=by
 unfold r85 m85
 simp only[ZbM,Option.bind_some]
theorem Zcv (y:PTup i74):r74 y=some ((inR 0 255 y.1,()),()):=by
 unfold r74 m74
 simp only[ZbV,Option.bind_some]
theorem ZiO (y:PTup i86):r86 y=some ((inR 0 20000 y.1,()),()):=by
 unfold r86 m86
 simp only[ZbM,Option.bind_some]
theorem Zhe (l:List Int) (hl:l.length≤4611686018427387904):r157 (l,())=some ((allR 0 255 l,()),()):=by
 have key:=ZaY (fun k i=>n157_0 r85 k (l,((l.length:Int),())) () ((i:Int),())) l (inR 0 255) (Sum.inl ((l.length:Int),()),()) (Sum.inr (false,()),())
  (fun k i h hq=>by
   simp only[n157_0,w157_0,Zad]
   rw[Zaj (by omega),Zay (by omega),ZaA .i l i h,ZdB,ZaL (by omega)]
   simp only[cond_true,Option.bind_some,hq,Bool.not_true,cond_false])
  (fun k i h hq=>by
   simp only[n157_0,w157_0,Zad]
   rw[Zaj (by omega),Zay (by omega),ZaA .i l i h,ZdB]
   simp only[cond_true,Option.bind_some,hq,Bool.not_false])
  (fun k=>by
   simp only[n157_0,w157_0,Zad]
   rw[Zam (by omega)];rfl) fuel 0 (by omega) (by have:=Zaq;omega)
 unfold r157 m157 L157_0
 simp only[Zad]
 simp only[Int.natCast_zero,List.drop_zero]at key
 rw[key]
 unfold allR
 cases l.all (inR 0 255)<;>rfl
theorem Zk9 (l:List Int) (hl:l.length≤4611686018427387904):r221 (l,())=some ((allR 0 63 l,()),()):=by
 have key:=ZaY (fun k i=>n221_0 r87 k (l,((l.length:Int),())) () ((i:Int),())) l (inR 0 63) (Sum.inl ((l.length:Int),()),()) (Sum.inr (false,()),())
  (fun k i h hq=>by
   simp only[n221_0,w221_0,Zad]
   rw[Zaj (by omega),Zay (by omega),ZaA .i l i h,ZbM,ZaL (by omega)]
   simp only[cond_true,Option.bind_some,hq,Bool.not_true,cond_false])
  (fun k i h hq=>by
   simp only[n221_0,w221_0,Zad]
   rw[Zaj (by omega),Zay (by omega),ZaA .i l i h,ZbM]
   simp only[cond_true,Option.bind_some,hq,Bool.not_false])
  (fun k=>by
   simp only[n221_0,w221_0,Zad]
   rw[Zam (by omega)];rfl) fuel 0 (by omega) (by have:=Zaq;omega)
 unfold r221 m221 L221_0
 simp only[Zad]
 simp only[Int.natCast_zero,List.drop_zero]at key
 rw[key]
 unfold allR
 cases l.all (inR 0 63)<;>rfl
def ZfA (l:List Int):Bool:=leI (l.length:Int) 20&&allR 0 255 l
theorem ZfP (l:List Int) (hl:l.length≤4611686018427387904):r81 (l,())=some ((ZfA l,()),()):=by
 unfold r81 m81
 simp only[Zhe l hl,Option.bind_some,Zad,ZaP]
 rfl
theorem Zf9 (l:List Int) (hl:l.length≤4611686018427387904):r69 (l,())=some ((ZfA l,()),()):=by
 have key:=ZaY (fun k i=>n69_0 r74 k (l,()) () ((i:Int),())) l (inR 0 255) (Sum.inl ((l.length:Int),()),()) (Sum.inr (false,()),())
  (fun k i h hq=>by
   simp only[n69_0,w69_0,Zad]
   rw[Zaj (by omega),Zay (by omega),ZaA .i l i h,Zcv,ZaL (by omega)]
   simp only[cond_true,Option.bind_some,hq,Bool.not_true,cond_false])
  (fun k i h hq=>by
   simp only[n69_0,w69_0,Zad]
   rw[Zaj (by omega),Zay (by omega),ZaA .i l i h,Zcv]
   simp only[cond_true,Option.bind_some,hq,Bool.not_false])
  (fun k=>by
   simp only[n69_0,w69_0,Zad]
   rw[Zam (by omega)];rfl) fuel 0 (by omega) (by have:=Zaq;omega)
 unfold r69 m69 L69_0
 simp only[Zad]
 simp only[Int.natCast_zero,List.drop_zero]at key
 rw[key]
 unfold ZfA allR
 cases l.all (inR 0 255)<;>simp[Zai]
def ZgA (l:List Int):Bool:=eqI (l.length:Int) 256&&allR 0 255 l
def ZgE (f:List (List Int)):Bool:=f.all ZgA&&inR 1 8 (f.length:Int)
theorem ZmP (f:List (List Int)) (hf:small f):r156 ((f,()),())=some ((ZgE f,()),()):=by
 have h0:=hf.1
 have key:=ZaY (fun k i=>n156_0 r157 r87 k (f,((f.length:Int),())) () ((i:Int),())) f ZgA (Sum.inl ((f.length:Int),()),()) (Sum.inr (false,()),())
  (fun k i h hq=>by
   have hl:=hf.2.1 _ (List.getElem_mem h)
   simp only[ZgA,Bool.and_eq_true]at hq
   simp only[n156_0,w156_0,Zad]
   rw[Zaj (by omega),Zay (by omega),ZaA .n f i h,Zhe _ (by omega),ZaL (by omega)]
   have h1:(f[i].length:Int)=256:=by simpa [ZbN] using hq.1
   rw[ZcN h1]
   simp only[cond_true,Option.bind_some,hq.2,Bool.not_true,cond_false])
  (fun k i h hq=>by
   have hl:=hf.2.1 _ (List.getElem_mem h)
   simp only[n156_0,w156_0,Zad]
   rw[Zaj (by omega),Zay (by omega),ZaA .n f i h,Zhe _ (by omega)]
   by_cases h1:(f[i].length:Int)=256
   ·rw[ZcN h1]
    simp only[ZgA,Zao h1,Bool.true_and]at hq
    simp only[cond_true,Option.bind_some,hq,Bool.not_false,cond_false]
   ·rw[Zdg h1]
    simp only[cond_true])
  (fun k=>by
   simp only[n156_0,w156_0,Zad]
   rw[Zam (by omega)];rfl) fuel 0 (by omega) (by have:=Zaq;omega)
 unfold r156 m156 L156_0
 simp only[Zad]
 simp only[Int.natCast_zero,List.drop_zero]at key
 rw[key]
 unfold ZgE
 cases f.all ZgA<;>simp[Zai,ZbM]
theorem Zjg (f:List (List Int)) (i:Nat) (h:i<f.length) (hl:(f[i].length:Int)=256):
  L141_0 ((i:Int),()) ((f,()),()) ((0:Int),())=some (if f[i].all (inR 0 255)then (Sum.inl ((256:Int),()),((f,()),()))else (Sum.inr (false,()),((f,()),()))):=by
 have key:=ZaY (fun k j=>n141_0 r28 k ((i:Int),()) ((f,()),()) ((j:Int),())) f[i] (inR 0 255) (Sum.inl ((256:Int),()),((f,()),())) (Sum.inr (false,()),((f,()),()))
  (fun k j hj hq=>by
   simp only[n141_0,w141_0,Zad]
   rw[ZaA .n f i h,Zaj (show (j:Int)<256 by omega),Zay (show (0:Int)≤(i:Int) by omega),Zaj (show (i:Int)< (f.length:Int) by omega),Zay (show (0:Int)≤(j:Int) by omega),Zaj (by omega),ZaL (by omega),
    show rdI f[i] (j:Int)=f[i][j] by simp[rdI,List.getD,hj],ZbV]
   simp only[cond_true,Option.bind_some,hq,Bool.not_true,cond_false])
  (fun k j hj hq=>by
   simp only[n141_0,w141_0,Zad]
   rw[ZaA .n f i h,Zaj (show (j:Int)<256 by omega),Zay (show (0:Int)≤(i:Int) by omega),Zaj (show (i:Int)< (f.length:Int) by omega),Zay (show (0:Int)≤(j:Int) by omega),Zaj (by omega),
    show rdI f[i] (j:Int)=f[i][j] by simp[rdI,List.getD,hj],ZbV]
   simp only[cond_true,Option.bind_some,hq,Bool.not_false])
  (fun k=>by
   simp only[n141_0,w141_0,Zad]
   rw[Zam (by omega)]
   simp only[cond_false,hl]) fuel 0 (by omega) (by have:=Zaq;omega)
 exact key
theorem Zm2 (f:List (List Int)) (hf:small f):r141 ((f,()),())=some ((ZgE f,()),()):=by
 have h0:=hf.1
 have key:=ZaY (fun k i=>n141_1 r28 L141_0 k () ((f,()),()) ((i:Int),())) f ZgA (Sum.inl ((f.length:Int),()),((f,()),())) (Sum.inr (false,()),((f,()),()))
  (fun k i h hq=>by
   simp only[ZgA,Bool.and_eq_true,allR]at hq
   have h1:(f[i].length:Int)=256:=by simpa [ZbN] using hq.1
   simp only[n141_1,w141_1,Zad]
   rw[Zaj (by omega),Zay (by omega),ZaA .n f i h,ZaL (by omega),ZcN h1,Zjg f i h h1,hq.2]
   simp only[cond_true,cond_false,Option.bind_some,if_true,Zai])
  (fun k i h hq=>by
   simp only[n141_1,w141_1,Zad]
   rw[Zaj (by omega),Zay (by omega),ZaA .n f i h]
   by_cases h1:(f[i].length:Int)=256
   ·rw[ZcN h1,Zjg f i h h1]
    simp only[ZgA,Zao h1,Bool.true_and,allR]at hq
    rw[hq]
    simp only[cond_true,cond_false,Option.bind_some,Zai,Bool.false_eq_true,if_false]
   ·rw[Zdg h1]
    simp only[cond_true])
  (fun k=>by
   simp only[n141_1,w141_1,Zad]
   rw[Zam (by omega)];rfl) fuel 0 (by omega) (by have:=Zaq;omega)
 unfold r141 m141 L141_1
 simp only[Zad]
 simp only[Int.natCast_zero,List.drop_zero]at key
 rw[key]
 unfold ZgE
 cases f.all ZgA<;>simp[Zai,ZbV]
def Zi0 (f:List (List Int)) (x:Tup memL):Bool:=ZgE f&&(eqI (x.1.length:Int) 512&&(allR 0 255 x.1&&inR 0 ((f.length:Int)-1) x.2.1))
theorem ZgI (f:List (List Int)) (x:Tup memL) (hf:small f) (hx:x.1.length≤4398046511104):r80 ((f,()),(x,()))=some ((Zi0 f x,()),()):=by
 unfold r80 m80
 have:=hf.1
 simp only[ZmP f hf,Zhe x.1 (by omega),ZbM,Option.bind_some,Zad,ZaP]
 rw[Zas (by omega) (by omega)]
 rfl
theorem Zg6 (f:List (List Int)) (x:Tup memL) (hf:small f) (hx:x.1.length≤4398046511104):r70 ((f,()),(x,()))=some ((Zi0 f x,()),()):=by
 unfold r70 m70
 have:=hf.1
 simp only[Zm2 f hf,ZbV,Option.bind_some,Zad]
 rw[Zas (by omega) (by omega)]
 unfold Zi0
 cases ZgE f with
 |false=>rfl
 |true=>
  simp only[Bool.not_true,cond_false,Bool.true_and]
  by_cases h1:(x.1.length:Int)=512
  ·rw[ZcN h1,Zao h1]
   simp only[cond_false,Bool.true_and]
   cases h2:inR 0 ((f.length:Int)-1) x.2.1 with
   |false=>simp
   |true=>
    have key:=ZaY (fun k i=>n70_0 r141 r28 r74 k () (x,()) ((i:Int),())) x.1 (inR 0 255) (Sum.inl ((512:Int),()),(x,())) (Sum.inr (false,()),(x,()))
     (fun k i h hq=>by
      simp only[n70_0,w70_0,Zad]
      rw[Zaj (show (i:Int)<512 by omega),Zay (by omega),Zaj (by omega),ZaA .i x.1 i h,Zcv,ZaL (by omega)]
      simp only[cond_true,Option.bind_some,hq,Bool.not_true,cond_false])
     (fun k i h hq=>by
      simp only[n70_0,w70_0,Zad]
      rw[Zaj (show (i:Int)<512 by omega),Zay (by omega),Zaj (by omega),ZaA .i x.1 i h,Zcv]
      simp only[cond_true,Option.bind_some,hq,Bool.not_false])
     (fun k=>by
      simp only[n70_0,w70_0,Zad]
      rw[Zam (by omega)]
      simp only[cond_false,h1]) fuel 0 (by omega) (by have:=Zaq;omega)
    unfold L70_0
    simp only[Int.natCast_zero,List.drop_zero]at key
    simp only[Bool.not_true,cond_false]
    rw[key]
    unfold allR
    cases x.1.all (inR 0 255)<;>simp[Zai]
  ·rw[Zdg h1,Zag h1]
   rfl
def Zfj (c:Tup cpuL):Bool:=inR 0 255 c.1&&(inR 0 255 c.2.1&&(inR 0 255 c.2.2.1&&inR 0 65535 c.2.2.2.1))
theorem ZgG (c:Tup cpuL):r82 (c,())=some ((Zfj c,()),()):=by
 unfold r82 m82
 simp only[ZdB,ZbM,Option.bind_some,ZaP]
 rfl
theorem Zg4 (c:Tup cpuL):r71 (c,())=some ((Zfj c,()),()):=by
 unfold r71 m71
 simp only[Zcv,ZbV,Option.bind_some,ZaP]
 rfl
def Zh5 (a:Tup apuL):Bool:=inR 0 20000 a.1&&(inR 0 255 a.2.1&&(inR 0 255 a.2.2.1&&(inR 0 1 a.2.2.2.1&&inR 0 31 a.2.2.2.2.1)))
theorem ZeI (a:Tup apuL):r161 (a,())=some ((Zh5 a,()),()):=by
 unfold r161 m161
 simp only[ZiO,ZdB,ZbM,Option.bind_some,ZaP]
 rfl
theorem ZeT (a:Tup apuL):r145 (a,())=some ((Zh5 a,()),()):=by
 unfold r145 m145
 simp only[Zcv,ZbV,Option.bind_some,ZaP]
 rfl
def Zo8 (t:Int):Int:=if 48<Int.tmod t 64 then 0 else Int.tmod t 64
def ZpS (p:Tup ppuL):Bool:=inR 0 20000 p.1&&(inR 0 255 p.2.1&&(inR 0 255 p.2.2.1&&(inR 0 15 p.2.2.2.1&&inR 0 63 p.2.2.2.2.1)))
def Zl7 (p:Tup ppuL):Bool:=eqI (p.2.2.2.2.2.2.1.length:Int) 16&&(allR 0 63 p.2.2.2.2.2.2.1&&(eqI (p.2.2.2.2.2.2.2.1.length:Int) (Zo8 p.1)&&allR 0 63 p.2.2.2.2.2.2.2.1))
def ZgS (p:Tup ppuL):Bool:=ZpS p&&Zl7 p
theorem Zkf (p:Tup ppuL) (h:Zer p):r158 (p,())=some ((ZgS p,()),()):=by
 unfold r158 m158
 obtain ⟨h1,h2⟩:=h
 have hd:r221 p.2.2.2.2.2.2.2=some ((allR 0 63 p.2.2.2.2.2.2.2.1,()),()):=Zk9 p.2.2.2.2.2.2.2.1 (by omega)
 simp only[ZiO,ZdB,ZbM,Zk9 p.2.2.2.2.2.2.1 (by omega),hd,Zad,Option.bind_some]
 unfold ZgS ZpS Zl7 Zo8
 by_cases h48:48<Int.tmod p.1 64
 ·rw[Zaj h48,if_pos h48]
  simp only[cond_true,ZaP,Zeh,Bool.and_assoc]
 ·rw[Zam h48,if_neg h48]
  simp only[cond_false,ZaP,Zeh,Bool.and_assoc]
theorem Zp7 (p:Tup ppuL) (h16:(p.2.2.2.2.2.2.1.length:Int)=16):
  L142_1 () (p,()) ((0:Int),())=some (if p.2.2.2.2.2.2.1.all (inR 0 63)then (Sum.inl ((16:Int),()),(p,()))else (Sum.inr (false,()),(p,()))):=by
 have key:=ZaY (fun k i=>n142_1 r28 r74 r213 L142_0 k () (p,()) ((i:Int),())) p.2.2.2.2.2.2.1 (inR 0 63) (Sum.inl ((16:Int),()),(p,())) (Sum.inr (false,()),(p,()))
  (fun k i h hq=>by
   simp only[n142_1,w142_1,Zad]
   rw[Zaj (show (i:Int)<16 by omega),Zay (by omega),Zaj (by omega),ZaA .i p.2.2.2.2.2.2.1 i h,ZbV,ZaL (by omega)]
   simp only[cond_true,Option.bind_some,hq,Bool.not_true,cond_false])
  (fun k i h hq=>by
   simp only[n142_1,w142_1,Zad]
   rw[Zaj (show (i:Int)<16 by omega),Zay (by omega),Zaj (by omega),ZaA .i p.2.2.2.2.2.2.1 i h,ZbV]
   simp only[cond_true,Option.bind_some,hq,Bool.not_false])
  (fun k=>by
   simp only[n142_1,w142_1,Zad]
   rw[Zam (by omega)]
   simp only[cond_false,h16]) fuel 0 (by omega) (by have:=Zaq;omega)
 exact key
theorem Zrj (p:Tup ppuL) (hl:p.2.2.2.2.2.2.2.1.length≤4398046511104):
  L142_0 () (p,()) ((0:Int),())=some (if p.2.2.2.2.2.2.2.1.all (inR 0 63)then (Sum.inl ((p.2.2.2.2.2.2.2.1.length:Int),()),(p,()))else (Sum.inr (false,()),(p,()))):=by
 have key:=ZaY (fun k i=>n142_0 r28 r74 r213 k () (p,()) ((i:Int),())) p.2.2.2.2.2.2.2.1 (inR 0 63) (Sum.inl ((p.2.2.2.2.2.2.2.1.length:Int),()),(p,())) (Sum.inr (false,()),(p,()))
  (fun k i h hq=>by
   simp only[n142_0,w142_0,Zad]
   rw[Zaj (show (i:Int)<_ by omega),Zay (by omega),ZaA .i p.2.2.2.2.2.2.2.1 i h,ZbV,ZaL (by omega)]
   simp only[cond_true,Option.bind_some,hq,Bool.not_true,cond_false])
  (fun k i h hq=>by
   simp only[n142_0,w142_0,Zad]
   rw[Zaj (show (i:Int)<_ by omega),Zay (by omega),ZaA .i p.2.2.2.2.2.2.2.1 i h,ZbV]
   simp only[cond_true,Option.bind_some,hq,Bool.not_false])
  (fun k=>by
   simp only[n142_0,w142_0,Zad]
   rw[Zam (by omega)]
   rfl) fuel 0 (by omega) (by have:=Zaq;omega)
 exact key
theorem ZeU (p:Tup ppuL) (h:Zer p):r142 (p,())=some ((ZgS p,()),()):=by
 unfold r142 m142
 obtain ⟨h1,h2⟩:=h
 have hd:r213 (p.1,())=some ((Zo8 p.1,()),()):=by
  unfold r213 m213 Zo8
  by_cases h48:48<Int.tmod p.1 64
  ·simp only[Zaj h48,cond_true,h48,if_true]
  ·simp only[Zam h48,cond_false,h48,if_false]
 have hrest:(bif neI (p.2.2.2.2.2.2.1.length:Int) 16 then some ((false,()),())else
   bif neI (p.2.2.2.2.2.2.2.1.length:Int) (Zo8 p.1)then some ((false,()),())
   else (L142_1 () (p,()) ((0:Int),())).bind fun r6=>Zai r6.1 (fun r7=>(L142_0 () ((r6.2.1.1,(r6.2.1.2.1,(r6.2.1.2.2.1,(r6.2.1.2.2.2.1,(r6.2.1.2.2.2.2.1,(r6.2.1.2.2.2.2.2.1,p.2.2.2.2.2.2)))))),()) ((0:Int),())).bind fun r8=>
    Zai r8.1 (fun r9=>some ((true,()),())) (fun r9=>some (r9,()))) (fun r7=>some (r7,())))=some ((Zl7 p,()),()):=by
  unfold Zl7
  by_cases h16:(p.2.2.2.2.2.2.1.length:Int)=16
  ·rw[ZcN h16,Zao h16,cond_false]
   by_cases hdn:(p.2.2.2.2.2.2.2.1.length:Int)=Zo8 p.1
   ·rw[ZcN hdn,Zao hdn,cond_false,Zp7 p h16]
    unfold allR
    cases p.2.2.2.2.2.2.1.all (inR 0 63)with
    |false=>rfl
    |true=>
     simp only[if_true,Option.bind_some,Zai]
     rw[show ((p.1,(p.2.1,(p.2.2.1,(p.2.2.2.1,(p.2.2.2.2.1,(p.2.2.2.2.2.1,p.2.2.2.2.2.2)))))):Tup ppuL)=p from rfl,Zrj p h2]
     cases p.2.2.2.2.2.2.2.1.all (inR 0 63)<;>rfl
   ·rw[Zdg hdn,Zag hdn,cond_true]
    simp
  ·rw[Zdg h16,Zag h16,cond_true]
   rfl
 simp only[ZbV,Zcv,hd,Zad,Option.bind_some]
 rw[hrest]
 simp only[Zeh]
 unfold ZgS ZpS
 simp only[Bool.and_assoc]
abbrev ZcO:List LT:=[.int .i64, .sl false .t]
def ZgZ (l:List (Int×Int×Int)) (i:Nat):Bool:=inR 0 20000 (rdE .t l (i:Int)).1&&(inR 0 7 (rdE .t l (i:Int)).2.1&&(inR 0 255 (rdE .t l (i:Int)).2.2&&(decide (i=0)|| !ltI (rdE .t l (i:Int)).1 (rdE .t l ((i-1:Nat):Int)).1)))
def Zgn (r:Tup ZcO):Bool:=(List.range' 0 r.2.1.length).all (ZgZ r.2.1)&&(inR 1 16 r.1&&leI (r.2.1.length:Int) r.1)
theorem ZoP {i:Nat} (h:i≠0) (h2:i<9223372036854775807):wI ((i:Int)-1)=((i-1:Nat):Int):=by
 rw[Zas (by omega) (by omega)];omega
theorem ZhO (r:Tup ZcO) (hl:r.2.1.length≤4398046511104) (k i:Nat) (h:i<r.2.1.length):
  n222_0 r85 r86 r87 (k+1) (r.2.1,((r.2.1.length:Int),())) (r,()) ((i:Int),())=
   bif ZgZ r.2.1 i then n222_0 r85 r86 r87 k (r.2.1,((r.2.1.length:Int),())) (r,()) (((i+1:Nat):Int),())else some (Sum.inr (false,()),(r,())):=by
 simp only[n222_0,w222_0,Zad]
 rw[Zaj (show (i:Int)<_ by omega),Zay (show (0:Int)≤(i:Int) by omega),ZaL (by omega)]
 simp only[cond_true,ZiO,ZbM,ZdB,Option.bind_some]
 unfold ZgZ
 generalize inR 0 20000 (rdE .t r.2.1 (i:Int)).1=x1
 generalize inR 0 7 (rdE .t r.2.1 (i:Int)).2.1=x2
 generalize inR 0 255 (rdE .t r.2.1 (i:Int)).2.2=x3
 by_cases h0:i=0
 ·subst h0
  rw[Zam (by omega)]
  cases x1<;>cases x2<;>cases x3<;>rfl
 ·rw[Zaj (by omega),ZoP h0 (by omega),Zay (by omega),Zaj (by omega),decide_eq_false h0]
  generalize ltI (rdE .t r.2.1 (i:Int)).1 (rdE .t r.2.1 ((i-1:Nat):Int)).1=x4
  cases x1<;>cases x2<;>cases x3<;>cases x4<;>rfl
theorem Zoj (r:Tup ZcO) (hl:r.2.1.length≤4398046511104):r222 (r,())=some ((Zgn r,()),()):=by
 have key:=Zgx (fun k i=>n222_0 r85 r86 r87 k (r.2.1,((r.2.1.length:Int),())) (r,()) ((i:Int),())) r.2.1.length (ZgZ r.2.1) (Sum.inl ((r.2.1.length:Int),()),(r,())) (Sum.inr (false,()),(r,()))
  (fun k i h hq=>by simp only[ZhO r hl k i h,hq,cond_true])
  (fun k i h hq=>by simp only[ZhO r hl k i h,hq,cond_false])
  (fun k=>by
   simp only[n222_0,w222_0,Zad]
   rw[Zam (by omega)];rfl) fuel 0 (by omega) (by have:=Zaq;omega)
 unfold r222 m222 L222_0
 simp only[Zad]
 simp only[Int.natCast_zero,Nat.sub_zero]at key
 rw[key]
 unfold Zgn
 cases (List.range' 0 r.2.1.length).all (ZgZ r.2.1)with
 |false=>rfl
 |true=>simp only[if_true,Option.bind_some,Zai,ZbM,ZaP,Bool.true_and]
theorem Zh0 (r:Tup ZcO) (hl:r.2.1.length≤4398046511104) (k i:Nat) (h:i<r.2.1.length):
  n143_0 r28 r74 (k+1) () (r,()) ((i:Int),())=
   bif ZgZ r.2.1 i then n143_0 r28 r74 k () (r,()) (((i+1:Nat):Int),())else some (Sum.inr (false,()),(r,())):=by
 simp only[n143_0,w143_0,Zad]
 rw[Zaj (show (i:Int)<_ by omega),Zay (show (0:Int)≤(i:Int) by omega),ZaL (by omega)]
 simp only[cond_true,ZbV,Zcv,Option.bind_some]
 unfold ZgZ
 generalize inR 0 20000 (rdE .t r.2.1 (i:Int)).1=x1
 generalize inR 0 7 (rdE .t r.2.1 (i:Int)).2.1=x2
 generalize inR 0 255 (rdE .t r.2.1 (i:Int)).2.2=x3
 by_cases h0:i=0
 ·subst h0
  rw[Zam (by omega)]
  cases x1<;>cases x2<;>cases x3<;>rfl
 ·rw[Zaj (by omega),ZoP h0 (by omega),Zay (by omega),Zaj (by omega),decide_eq_false h0]
  generalize ltI (rdE .t r.2.1 (i:Int)).1 (rdE .t r.2.1 ((i-1:Nat):Int)).1=x4
  cases x1<;>cases x2<;>cases x3<;>cases x4<;>rfl
theorem Zji (r:Tup ZcO) (hl:r.2.1.length≤4398046511104):r143 (r,())=some ((Zgn r,()),()):=by
 have key:=Zgx (fun k i=>n143_0 r28 r74 k () (r,()) ((i:Int),())) r.2.1.length (ZgZ r.2.1) (Sum.inl ((r.2.1.length:Int),()),(r,())) (Sum.inr (false,()),(r,()))
  (fun k i h hq=>by simp only[Zh0 r hl k i h,hq,cond_true])
  (fun k i h hq=>by simp only[Zh0 r hl k i h,hq,cond_false])
  (fun k=>by
   simp only[n143_0,w143_0,Zad]
   rw[Zam (by omega)];rfl) fuel 0 (by omega) (by have:=Zaq;omega)
 unfold r143 m143 L143_0
 simp only[Zad]
 simp only[Int.natCast_zero,Nat.sub_zero]at key
 rw[key]
 unfold Zgn
 cases (List.range' 0 r.2.1.length).all (ZgZ r.2.1)with
 |false=>rfl
 |true=>simp only[if_true,Option.bind_some,Zai,ZbV,ZaP,Bool.true_and]
def ZeO (r:Tup ZcO) (t:Int):Bool:=if r.2.1.length=0 then true else leI t (rdE .t r.2.1 (0:Int)).1
theorem Zmd (r:Tup ZcO) (t:Int) (hl:r.2.1.length≤4398046511104):r159 (r,(t,()))=some ((Zgn r&&ZeO r t,()),()):=by
 unfold r159 m159
 simp only[Zoj r hl,Option.bind_some,Zad]
 unfold ZeO
 cases Zgn r with
 |false=>rfl
 |true=>
  by_cases h:r.2.1.length=0
  ·rw[Zao (by omega),if_pos h];rfl
  ·rw[Zag (by omega),if_neg h,Zaj (by omega)];rfl
def Zcm (f:List (List Int)) (t:Int):Bool:=f.all (fun l=>eqI (l.length:Int) 48)&&eqI (f.length:Int) (Int.tdiv (t+15) 64)
theorem ZoM {t c d:Int} (h0:0≤t) (h1:t≤20000) (hc:0≤c) (hc2:c≤64) (hd:d=64∨d=16):wI (Int.tdiv (t+c) d)=Int.tdiv (t+c) d:=by
 rw[Int.tdiv_eq_ediv_of_nonneg (by omega)]
 rcases hd with rfl|rfl<;>exact Zas (by omega) (by omega)
theorem ZgH (f:List (List Int)) (t:Int) (hf:f.length≤4398046511104) (h0:0≤t) (h1:t≤20000):r160 (f,(t,()))=some ((Zcm f t,()),()):=by
 have key:=ZaY (fun k i=>n160_0 r223 k (f,((f.length:Int),())) () ((i:Int),())) f (fun l=>eqI (l.length:Int) 48) (Sum.inl ((f.length:Int),()),()) (Sum.inr (false,()),())
  (fun k i h hq=>by
   simp only[n160_0,w160_0,Zad]
   rw[Zaj (by omega),Zay (by omega),ZaA .n f i h,ZaL (by omega)]
   have:(f[i].length:Int)=48:=by simpa [ZbN] using hq
   rw[ZcN this]
   simp only[cond_true,cond_false])
  (fun k i h hq=>by
   simp only[n160_0,w160_0,Zad]
   rw[Zaj (by omega),Zay (by omega),ZaA .n f i h]
   have: ¬(f[i].length:Int)=48:=by simpa [ZbN] using hq
   rw[Zdg this]
   simp only[cond_true])
  (fun k=>by
   simp only[n160_0,w160_0,Zad]
   rw[Zam (by omega)];rfl) fuel 0 (by omega) (by have:=Zaq;omega)
 unfold r160 m160 L160_0
 simp only[Zad]
 simp only[Int.natCast_zero,List.drop_zero]at key
 rw[key]
 unfold Zcm
 cases f.all (fun l=>eqI (l.length:Int) 48)with
 |false=>rfl
 |true=>
  have hc:r223 (t,((48:Int),((64:Int),())))=some ((Int.tdiv (t+15) 64,()),()):=by
   unfold r223 m223
   simp only
   rw[Zdg (by omega),Zas (x:=t+64) (by omega) (by omega),Zas (x:=t+64-1) (by omega) (by omega),Zas (x:=t+64-1-48) (by omega) (by omega),show t+64-1-48=t+15 by omega,ZoM h0 h1 (by omega) (by omega) (.inl rfl)]
   rfl
  simp only[if_true,Option.bind_some,Zai,hc,Bool.true_and]
theorem Zg5 (f:List (List Int)) (t:Int) (hf:f.length≤4398046511104) (h0:0≤t) (h1:t≤20000):r144 (f,(t,()))=some ((Zcm f t,()),()):=by
 have key:=ZaY (fun k i=>n144_0 r214 k (f,()) () ((i:Int),())) f (fun l=>eqI (l.length:Int) 48) (Sum.inl ((f.length:Int),()),()) (Sum.inr (false,()),())
  (fun k i h hq=>by
   simp only[n144_0,w144_0,Zad]
   rw[Zaj (by omega),Zay (by omega),ZaA .n f i h,ZaL (by omega)]
   have:(f[i].length:Int)=48:=by simpa [ZbN] using hq
   rw[ZcN this]
   simp only[cond_true,cond_false])
  (fun k i h hq=>by
   simp only[n144_0,w144_0,Zad]
   rw[Zaj (by omega),Zay (by omega),ZaA .n f i h]
   have: ¬(f[i].length:Int)=48:=by simpa [ZbN] using hq
   rw[Zdg this]
   simp only[cond_true])
  (fun k=>by
   simp only[n144_0,w144_0,Zad]
   rw[Zam (by omega)];rfl) fuel 0 (by omega) (by have:=Zaq;omega)
 unfold r144 m144 L144_0
 simp only[Zad]
 simp only[Int.natCast_zero,List.drop_zero]at key
 rw[key]
 unfold Zcm
 cases f.all (fun l=>eqI (l.length:Int) 48)with
 |false=>rfl
 |true=>
  have hc:r214 (t,())=some ((Int.tdiv (t+15) 64,()),()):=by
   unfold r214 m214
   simp only
   rw[Zas (x:=t+64) (by omega) (by omega),Zas (x:=t+64-48) (by omega) (by omega),Zas (x:=t+64-48-1) (by omega) (by omega),show t+64-48-1=t+15 by omega,ZoM h0 h1 (by omega) (by omega) (.inl rfl)]
  simp only[if_true,Option.bind_some,Zai,hc,Bool.true_and]
def ZdF (s:List Int) (t:Int):Bool:=eqI (s.length:Int) (Int.tdiv t 16)
theorem Zgj (s:List Int) (t:Int) (h0:0≤t) (h1:t≤20000):r162 (s,(t,()))=some ((ZdF s t,()),()):=by
 unfold r162 m162 r223 m223
 simp only
 rw[Zdg (by omega),Zas (x:=t+16) (by omega) (by omega),Zas (x:=t+16-1) (by omega) (by omega),Zas (x:=t+16-1-15) (by omega) (by omega),show t+16-1-15=t+0 by omega,ZoM h0 h1 (by omega) (by omega) (.inr rfl),Int.add_zero]
 rfl
abbrev picL:List LT:=ppuL++(ZcO++[.sl false .n])
abbrev sndL:List LT:=apuL++(ZcO++[.sl false .i])
abbrev Zdh (w:Tup picL):Tup ppuL:=(w.1,(w.2.1,(w.2.2.1,(w.2.2.2.1,(w.2.2.2.2.1,(w.2.2.2.2.2.1,(w.2.2.2.2.2.2.1,(w.2.2.2.2.2.2.2.1,()))))))))
abbrev Zcb (w:Tup picL):Tup ZcO:=(w.2.2.2.2.2.2.2.2.1,(w.2.2.2.2.2.2.2.2.2.1,()))
abbrev Zp2 (w:Tup sndL):Tup apuL:=(w.1,(w.2.1,(w.2.2.1,(w.2.2.2.1,(w.2.2.2.2.1,(w.2.2.2.2.2.1,(w.2.2.2.2.2.2.1,())))))))
abbrev Zcc (w:Tup sndL):Tup ZcO:=(w.2.2.2.2.2.2.2.1,(w.2.2.2.2.2.2.2.2.1,()))
def ZgR (w:Tup picL):Prop:=Zer (Zdh w)∧(Zcb w).2.1.length≤4398046511104∧small w.2.2.2.2.2.2.2.2.2.2.1
def Zg2 (w:Tup sndL):Prop:=(Zcc w).2.1.length≤4398046511104∧w.2.2.2.2.2.2.2.2.2.1.length≤4398046511104
def ZmU (w:Tup picL):Bool:=ZgS (Zdh w)&&(Zgn (Zcb w)&&(ZeO (Zcb w) w.1&&Zcm w.2.2.2.2.2.2.2.2.2.2.1 w.1))
def ZmY (w:Tup sndL):Bool:=Zh5 (Zp2 w)&&(Zgn (Zcc w)&&(ZeO (Zcc w) w.1&&ZdF w.2.2.2.2.2.2.2.2.2.1 w.1))
theorem ZuS {p:Tup ppuL} (h:ZgS p=true):0≤p.1∧p.1≤20000:=by
 simp only[ZgS,ZpS,Bool.and_eq_true]at h
 exact ZbI.1 h.1.1
theorem ZtM {p:Tup apuL} (h:Zh5 p=true):0≤p.1∧p.1≤20000:=by
 simp only[Zh5,Bool.and_eq_true]at h
 exact ZbI.1 h.1
theorem Zkz (w:Tup picL) (h:ZgR w):r83 (w,())=some ((ZmU w,()),()):=by
 unfold r83 m83 ZmU
 obtain ⟨h1,h2,h3⟩:=h
 simp only[Zkf (Zdh w) h1,Zmd (Zcb w) w.1 h2,Option.bind_some]
 cases e:ZgS (Zdh w)with
 |false=>rfl
 |true=>
  obtain ⟨t0,t1⟩:=ZuS e
  simp only[ZgH w.2.2.2.2.2.2.2.2.2.2.1 w.1 h3.1 t0 t1,Option.bind_some,cond_true,ZaP,Bool.and_assoc,Bool.true_and]
theorem Zgq (w:Tup picL) (h:ZgR w):r72 (w,())=some ((ZmU w,()),()):=by
 unfold r72 m72 ZmU
 obtain ⟨h1,h2,h3⟩:=h
 simp only[ZeU (Zdh w) h1,Zji (Zcb w) h2,Option.bind_some,Zad]
 cases e:ZgS (Zdh w)with
 |false=>rfl
 |true=>
  obtain ⟨t0,t1⟩:=ZuS e
  simp only[Zg5 w.2.2.2.2.2.2.2.2.2.2.1 w.1 h3.1 t0 t1,Option.bind_some,Bool.not_true,cond_false,Bool.true_and]
  unfold ZeO
  cases Zgn (Zcb w)with
  |false=>rfl
  |true=>
   by_cases hz:(Zcb w).2.1.length=0
   ·rw[Zao (by have:w.2.2.2.2.2.2.2.2.2.1.length=0:=hz;omega),if_pos hz]
    simp
   ·rw[Zag (by have: ¬w.2.2.2.2.2.2.2.2.2.1.length=0:=hz;omega),if_neg hz,Zaj (by have: ¬w.2.2.2.2.2.2.2.2.2.1.length=0:=hz;omega)]
    simp only[ZaP,Bool.not_true,cond_false,cond_true,Bool.true_and]
theorem ZmR (w:Tup sndL) (h:Zg2 w):r84 (w,())=some ((ZmY w,()),()):=by
 unfold r84 m84 ZmY
 obtain ⟨h1,h2⟩:=h
 simp only[ZeI (Zp2 w),Zmd (Zcc w) w.1 h1,Option.bind_some]
 cases e:Zh5 (Zp2 w)with
 |false=>rfl
 |true=>
  obtain ⟨t0,t1⟩:=ZtM e
  simp only[Zgj w.2.2.2.2.2.2.2.2.2.1 w.1 t0 t1,Option.bind_some,cond_true,ZaP,Bool.and_assoc,Bool.true_and]
theorem Zh1 (w:Tup sndL) (h:Zg2 w):r73 (w,())=some ((ZmY w,()),()):=by
 unfold r73 m73 ZmY
 obtain ⟨h1,h2⟩:=h
 simp only[ZeT (Zp2 w),Zji (Zcc w) h1,Option.bind_some,Zad]
 cases e:Zh5 (Zp2 w)with
 |false=>rfl
 |true=>
  obtain ⟨t0,t1⟩:=ZtM e
  have et:wI (Int.tdiv w.1 16)=Int.tdiv w.1 16:=by
   have:=ZoM (c:=0) t0 t1 (by omega) (by omega) (.inr rfl:(16:Int)=64∨(16:Int)=16)
   simpa using this
  rw[et]
  unfold ZeO ZdF
  cases Zgn (Zcc w)with
  |false=>rfl
  |true=>
   by_cases hz:(Zcc w).2.1.length=0
   ·rw[Zao (show (w.2.2.2.2.2.2.2.2.1.length:Int)=0 by have:w.2.2.2.2.2.2.2.2.1.length=0:=hz;omega),if_pos hz]
    simp
   ·rw[Zag (show¬(w.2.2.2.2.2.2.2.2.1.length:Int)=0 by have: ¬w.2.2.2.2.2.2.2.2.1.length=0:=hz;omega),if_neg hz,Zaj (by have: ¬w.2.2.2.2.2.2.2.2.1.length=0:=hz;omega)]
    simp only[ZaP,Bool.not_true,cond_false,cond_true,Bool.true_and]
abbrev ZaO:List LT:= .sl false .n:: .sl false .i::(memL++(cpuL++(padL++(.int .i64:: .bool:: .int .i64:: .bool:: .int .i64:: .int .i64:: .sl false .i::(picL++sndL)))))
section
variable (s:Tup ZaO)
abbrev Zez:List (List Int):=s.1
abbrev Zcq:List Int:=s.2.1
abbrev ZdG:Tup memL:=(s.2.2.1,(s.2.2.2.1,()))
abbrev Zd4:Tup cpuL:=(s.2.2.2.2.1,(s.2.2.2.2.2.1,(s.2.2.2.2.2.2.1,(s.2.2.2.2.2.2.2.1,(s.2.2.2.2.2.2.2.2.1,(s.2.2.2.2.2.2.2.2.2.1,(s.2.2.2.2.2.2.2.2.2.2.1,(s.2.2.2.2.2.2.2.2.2.2.2.1,()))))))))
abbrev Zp3:Tup padL:=(s.2.2.2.2.2.2.2.2.2.2.2.2.1,(s.2.2.2.2.2.2.2.2.2.2.2.2.2.1,()))
abbrev ZxT:Int:=s.2.2.2.2.2.2.2.2.2.2.2.2.2.1
abbrev spT:Int:=s.2.2.2.2.2.2.2.2.2.2.2.2.2.2.1
abbrev ZxS:Bool:=s.2.2.2.2.2.2.2.2.2.2.2.2.2.2.2.1
abbrev Zva:Int:=s.2.2.2.2.2.2.2.2.2.2.2.2.2.2.2.2.1
abbrev Zvb:Bool:=s.2.2.2.2.2.2.2.2.2.2.2.2.2.2.2.2.2.1
abbrev Zml:Int:=s.2.2.2.2.2.2.2.2.2.2.2.2.2.2.2.2.2.2.1
abbrev ZoE:Int:=s.2.2.2.2.2.2.2.2.2.2.2.2.2.2.2.2.2.2.2.1
abbrev Zb9:List Int:=s.2.2.2.2.2.2.2.2.2.2.2.2.2.2.2.2.2.2.2.2.1
abbrev ZbE:Tup picL:=(s.2.2.2.2.2.2.2.2.2.2.2.2.2.2.2.2.2.2.2.2.2.1,(s.2.2.2.2.2.2.2.2.2.2.2.2.2.2.2.2.2.2.2.2.2.2.1,(s.2.2.2.2.2.2.2.2.2.2.2.2.2.2.2.2.2.2.2.2.2.2.2.1,(s.2.2.2.2.2.2.2.2.2.2.2.2.2.2.2.2.2.2.2.2.2.2.2.2.1,(s.2.2.2.2.2.2.2.2.2.2.2.2.2.2.2.2.2.2.2.2.2.2.2.2.2.1,(s.2.2.2.2.2.2.2.2.2.2.2.2.2.2.2.2.2.2.2.2.2.2.2.2.2.2.1,(s.2.2.2.2.2.2.2.2.2.2.2.2.2.2.2.2.2.2.2.2.2.2.2.2.2.2.2.1,(s.2.2.2.2.2.2.2.2.2.2.2.2.2.2.2.2.2.2.2.2.2.2.2.2.2.2.2.2.1,(s.2.2.2.2.2.2.2.2.2.2.2.2.2.2.2.2.2.2.2.2.2.2.2.2.2.2.2.2.2.1,(s.2.2.2.2.2.2.2.2.2.2.2.2.2.2.2.2.2.2.2.2.2.2.2.2.2.2.2.2.2.2.1,(s.2.2.2.2.2.2.2.2.2.2.2.2.2.2.2.2.2.2.2.2.2.2.2.2.2.2.2.2.2.2.2.1,())))))))))))
abbrev Zcz:Tup sndL:=s.2.2.2.2.2.2.2.2.2.2.2.2.2.2.2.2.2.2.2.2.2.2.2.2.2.2.2.2.2.2.2.2
end
theorem ZqW (a b:Int):ltI a b= !leI b a:=by
 by_cases h:a<b
 ·rw[Zaj h,ZiU (by omega)];rfl
 ·rw[Zam h,Zay (by omega)];rfl
def Zdw (r:Tup ZcO) (t:Int):Bool:=if r.2.1.length=0 then true else leI (rdE .t r.2.1 ((r.2.1.length-1:Nat):Int)).1 t
theorem Zme (r:Tup ZcO) (t:Int) (hl:r.2.1.length≤4398046511104):r88 (r,(t,()))=some ((Zdw r t,()),()):=by
 unfold r88 m88 Zdw
 simp only[Zad]
 by_cases h:r.2.1.length=0
 ·rw[Zao (by omega),if_pos h];rfl
 ·rw[Zag (by omega),if_neg h,ZoP h (by omega),Zay (by omega),Zaj (by omega)];rfl
def Zv8 (r:Tup ZcO):Int:=if r.2.1.length=0 then 0 else (rdE .t r.2.1 ((r.2.1.length-1:Nat):Int)).1
theorem Znt (r:Tup ZcO) (hl:r.2.1.length≤4398046511104):r75 (r,())=some ((Zv8 r,()),()):=by
 unfold r75 m75 Zv8
 simp only[Zad]
 by_cases h:r.2.1.length=0
 ·rw[Zao (by omega),if_pos h];rfl
 ·rw[Zag (by omega),if_neg h,ZoP h (by omega),Zay (by omega),Zaj (by omega)];rfl
theorem ZrR (r:Tup ZcO) (t:Int) (h:0≤t):leI (Zv8 r) t=Zdw r t:=by
 unfold Zv8 Zdw
 split
 ·rw[Zay h]
 ·rfl
def Zal (s:Tup ZaO):Prop:=small (Zez s)∧(Zcq s).length≤4398046511104∧(ZdG s).1.length≤4398046511104∧(Zb9 s).length≤4398046511104∧ZgR (ZbE s)∧Zg2 (Zcz s)
def ZkT (s:Tup ZaO):Bool:=inR 0 255 (ZxT s)&&(inR 0 255 (Zva s)&&(inR 0 20000 (spT s)&&(inR 0 (spT s) (Zml s)&&inR 0 (spT s) (ZoE s))))
def ZfF (s:Tup ZaO):Bool:=Zi0 (Zez s) (ZdG s)&&(ZfA (Zcq s)&&(Zfj (Zd4 s)&&(ZmU (ZbE s)&&ZmY (Zcz s))))
def ZkS (s:Tup ZaO):Bool:=leI (ZbE s).1 (spT s)&&(leI (Zcz s).1 (spT s)&&(Zdw (Zcb (ZbE s)) (spT s)&&Zdw (Zcc (Zcz s)) (spT s)))
def ZaB (s:Tup ZaO):Bool:=ZfF s&&(ZkT s&&ZkS s)
theorem Zbg (s:Tup ZaO) (h:Zal s):r17 (s,())=some ((ZaB s,()),()):=by
 unfold r17 m17
 obtain ⟨h1,h2,h3,_,h5,h6⟩:=h
 simp only[ZgI (Zez s) (ZdG s) h1 h3,ZfP (Zcq s) (by omega),ZgG (Zd4 s),Zkz (ZbE s) h5,ZmR (Zcz s) h6,ZdB,ZiO,ZbM,
  Zme (Zcb (ZbE s)) _ h5.2.1,Zme (Zcc (Zcz s)) _ h6.1,Option.bind_some]
 unfold ZaB ZfF ZkT ZkS
 generalize Zi0 (Zez s) (ZdG s)=x0
 generalize ZfA (Zcq s)=x1
 generalize Zfj (Zd4 s)=x2
 generalize ZmU (ZbE s)=x3
 generalize ZmY (Zcz s)=x4
 generalize Zdw (Zcb (ZbE s)) (spT s)=x5
 generalize Zdw (Zcc (Zcz s)) (spT s)=x6
 cases x0<;>cases x1<;>cases x2<;>cases x3<;>cases x4<;>first| (simp[ZaP];done)| (simp[ZaP,Bool.and_assoc];done)
theorem Za4 (s:Tup ZaO) (h:Zal s):r15 (s,())=some ((ZaB s,()),()):=by
 unfold r15 m15
 obtain ⟨h1,h2,h3,_,h5,h6⟩:=h
 simp only[Zg6 (Zez s) (ZdG s) h1 h3,Zf9 (Zcq s) (by omega),Zg4 (Zd4 s),Zgq (ZbE s) h5,Zh1 (Zcz s) h6,Zcv,ZbV,
  Znt (Zcb (ZbE s)) h5.2.1,Znt (Zcc (Zcz s)) h6.1,Option.bind_some]
 unfold ZaB ZfF ZkT ZkS
 generalize Zi0 (Zez s) (ZdG s)=x0
 generalize ZfA (Zcq s)=x1
 generalize Zfj (Zd4 s)=x2
 generalize ZmU (ZbE s)=x3
 generalize ZmY (Zcz s)=x4
 cases hT:inR 0 20000 (spT s)with
 |false=>cases x0<;>cases x1<;>cases x2<;>cases x3<;>cases x4<;>simp[Zeh]
 |true=>
  have t0:=(ZbI.1 hT).1
  rw[ZrR _ _ t0,ZrR _ _ t0]
  have e1:ltI (spT s) (ZbE s).1= !leI (ZbE s).1 (spT s):=ZqW _ _
  have e2:ltI (spT s) (Zcz s).1= !leI (Zcz s).1 (spT s):=ZqW _ _
  rw[e1,e2]
  cases x0<;>cases x1<;>cases x2<;>cases x3<;>cases x4<;>first| (simp[Zeh,ZaP];done)| (simp[Zeh,ZaP,Bool.and_assoc];done)| (simp[Zeh,ZaP,Bool.and_assoc];rfl)
theorem Za6 (l:List Int) (h:l.length≤4398046511104):r112 (l,())=some ((l,()),()):=by
 unfold r112 m112
 rw[Zbn (by simp only[E.most];omega)]
 rfl
theorem ZgC (f:List (List Int)) (h:small f):r111 ((f,()),())=some (((f,()),()),()):=by
 have h0:=h.1
 have key:=ZcR (fun k i out=>n111_0 r112 k (f,((f.length:Int),())) ((out,()),()) ((i:Int),())) f (fun out=>(Sum.inl ((f.length:Int),()),((out,()),())))
  (fun k i out hi ho=>by
   simp only[n111_0,w111_0,Zad]
   rw[Zaj (by omega),Zay (by omega),ZaA .n f i hi,ZaL (by omega),Za6 _ (h.2.1 _ (List.getElem_mem hi))]
   simp only[cond_true,Option.bind_some]
   rw[Zbn (by simp only[E.most,List.length_singleton];omega)]
   rfl)
  (fun k out ho=>by
   simp only[n111_0,w111_0,Zad]
   rw[Zam (by omega)];rfl) fuel 0 [] (by omega) rfl (by have:=Zaq;omega)
 unfold r111 m111 L111_0
 simp only[Zad]
 simp only[Int.natCast_zero,List.drop_zero,List.nil_append]at key
 rw[key]
 rfl
theorem Zen (f:List (List Int)) (h:small f):r92 ((f,()),())=some (((f,()),()),()):=by
 have h0:=h.1
 have key:=ZcR (fun k i out=>n92_0 k () ((f,()),((out,()),())) ((i:Int),())) f (fun out=>(Sum.inl ((f.length:Int),()),((f,()),((out,()),()))))
  (fun k i out hi ho=>by
   have hl:=h.2.1 _ (List.getElem_mem hi)
   simp only[n92_0,w92_0,Zad]
   rw[Zaj (by omega),Zay (by omega),ZaA .n f i hi,ZaL (by omega)]
   rw[Zbn (by simp only[E.most];omega),Zbn (by simp only[E.most,List.length_singleton];omega)]
   rfl)
  (fun k out ho=>by
   simp only[n92_0,w92_0,Zad]
   rw[Zam (by omega)];rfl) fuel 0 [] (by omega) rfl (by have:=Zaq;omega)
 unfold r92 m92 L92_0
 simp only[Int.natCast_zero,List.drop_zero,List.nil_append]at key
 rw[key]
 rfl
theorem ZfM (f:List (List Int)) (h:small f):r189 (f,())=some ((f,()),()):=by
 have h0:=h.1
 have key:=ZcR (fun k i out=>n189_0 r112 k (f,((f.length:Int),())) () (out,((i:Int),()))) f (fun out=>(Sum.inl (out,((f.length:Int),())),()))
  (fun k i out hi ho=>by
   simp only[n189_0,w189_0,Zad]
   rw[Zaj (by omega),Zay (by omega),ZaA .n f i hi,ZaL (by omega),Za6 _ (h.2.1 _ (List.getElem_mem hi))]
   simp only[cond_true,Option.bind_some]
   rw[Zbn (by simp only[E.most,List.length_singleton];omega)]
   rfl)
  (fun k out ho=>by
   simp only[n189_0,w189_0,Zad]
   rw[Zam (by omega)];rfl) fuel 0 [] (by omega) rfl (by have:=Zaq;omega)
 unfold r189 m189 L189_0
 simp only[Zad]
 simp only[Int.natCast_zero,List.drop_zero,List.nil_append]at key
 rw[key]
 rfl
theorem Zhn (f:List (List Int)) (h:small f):r166 (f,())=some ((f,()),()):=by
 have h0:=h.1
 have key:=ZcR (fun k i out=>n166_0 k (f,()) () (out,((i:Int),()))) f (fun out=>(Sum.inl (out,((f.length:Int),())),()))
  (fun k i out hi ho=>by
   have hl:=h.2.1 _ (List.getElem_mem hi)
   simp only[n166_0,w166_0,Zad]
   rw[Zaj (by omega),Zay (by omega),ZaA .n f i hi,ZaL (by omega)]
   rw[Zbn (by simp only[E.most];omega),Zbn (by simp only[E.most,List.length_singleton];omega)]
   rfl)
  (fun k out ho=>by
   simp only[n166_0,w166_0,Zad]
   rw[Zam (by omega)];rfl) fuel 0 [] (by omega) rfl (by have:=Zaq;omega)
 unfold r166 m166 L166_0
 simp only[Int.natCast_zero,List.drop_zero,List.nil_append]at key
 rw[key]
 rfl
theorem Znb (x:Tup memL) (h:x.1.length≤4398046511104):r113 (x,())=some ((x,()),()):=by
 unfold r113 m113
 exact Zaa (Za6 x.1 h) rfl
theorem ZiS (x:Tup memL) (h:x.1.length≤4398046511104):r93 (x,())=some ((x,()),()):=by
 unfold r93 m93
 simp only
 rw[Zbn (by simp only[E.most];omega)]
 rfl
theorem Znc (p:Tup ppuL) (h:Zer p):r187 (p,())=some ((p,()),()):=by
 unfold r187 m187
 exact Zaa (Za6 p.2.2.2.2.2.2.1 h.1) (Zaa (Za6 p.2.2.2.2.2.2.2.1 h.2) rfl)
theorem Zep (p:Tup ppuL) (h:Zer p):r164 (p,())=some ((p,()),()):=by
 unfold r164 m164
 obtain ⟨h1,h2⟩:=h
 simp only
 rw[Zbn (by simp only[E.most];omega),Zbn (by simp only[E.most];omega)]
 rfl
theorem Zla (r:Tup ZcO) (h:r.2.1.length≤4398046511104):r188 (r,())=some ((r,()),()):=by
 unfold r188 m188
 simp only
 rw[Zbn (by simp only[E.most];omega)]
 rfl
theorem Zho (r:Tup ZcO) (h:r.2.1.length≤4398046511104):r165 (r,())=some ((r,()),()):=by
 unfold r165 m165
 simp only
 rw[Zbn (by simp only[E.most];omega)]
 rfl
theorem ZmI (w:Tup picL) (h:ZgR w):r114 (w,())=some ((w,()),()):=by
 unfold r114 m114
 exact Zaa (Znc (Zdh w) h.1) (Zaa (Zla (Zcb w) h.2.1) (Zaa (ZfM w.2.2.2.2.2.2.2.2.2.2.1 h.2.2) rfl))
theorem Zo4 (w:Tup sndL) (h:Zg2 w):r115 (w,())=some ((w,()),()):=by
 unfold r115 m115
 exact Zaa (Zla (Zcc w) h.1) (Zaa (Za6 w.2.2.2.2.2.2.2.2.2.1 h.2) rfl)
theorem ZcI (s:Tup ZaO) (h:Zal s):r38 (s,())=some ((s,()),()):=by
 unfold r38 m38
 obtain ⟨h1,h2,h3,h4,h5,h6⟩:=h
 exact Zaa (ZgC (Zez s) h1) (Zaa (Za6 (Zcq s) h2) (Zaa (Znb (ZdG s) h3) (Zaa (Za6 (Zb9 s) h4) (Zaa (ZmI (ZbE s) h5) (Zaa (Zo4 (Zcz s) h6) rfl)))))
abbrev ZoD (s:Tup ZaO):List (List Int):=(ZbE s).2.2.2.2.2.2.2.2.2.2.1
abbrev Zjf (s:Tup ZaO):List Int:=(Zcz s).2.2.2.2.2.2.2.2.2.1
def Zq0 (s:Tup ZaO):Tup obsL:=(ZoD s,(Zjf s,(Zb9 s,())))
theorem Zkc (s:Tup ZaO) (h:Zal s):r151 (s,())=some ((Zq0 s,()),()):=by
 unfold r151 m151
 obtain ⟨h1,h2,h3,h4,h5,h6⟩:=h
 exact Zaa (ZfM (ZoD s) h5.2.2) (Zaa (Za6 (Zjf s) h6.2) (Zaa (Za6 (Zb9 s) h4) rfl))
theorem Zkn (s:Tup ZaO) (h:Zal s):r235 (s,())=some ((Zq0 s,()),()):=by
 unfold r235 m235
 obtain ⟨h1,h2,h3,h4,h5,h6⟩:=h
 refine Zaa (Zhn (ZoD s) h5.2.2) ?_
 have a1:(Zjf s).length≤4398046511104:=h6.2
 rw[Zbn (show 0+(Zjf s).length≤E.most .i by simp only[E.most];omega),Zbn (show 0+(Zb9 s).length≤E.most .i by simp only[E.most];omega)]
 rfl
def ZuP (s:Tup ZaO):Bool:=eqI (ZbE s).1 (spT s)&&eqI ((Zcb (ZbE s)).2.1.length:Int) 0
def Zu9 (s:Tup ZaO):Bool:=eqI (Zcz s).1 (spT s)&&eqI ((Zcc (Zcz s)).2.1.length:Int) 0
theorem Zgl (s:Tup ZaO):r219 (s,())=some ((ZuP s,()),()):=by
 unfold r219 m219
 simp only[Zad,ZaP]
 rfl
theorem Zfb (s:Tup ZaO):r220 (s,())=some ((Zu9 s,()),()):=by
 unfold r220 m220
 simp only[Zad,ZaP]
 rfl
theorem ZgN (s:Tup ZaO):r174 (s,())=some ((ZuP s,()),()):=by
 unfold r174 m174
 simp only[Zad,ZaP]
 rfl
theorem ZfT (s:Tup ZaO):r169 (s,())=some ((Zu9 s,()),()):=by
 unfold r169 m169
 simp only[Zad,ZaP]
 rfl
def Ztb:Tup Zih:=([],([],([],(0,(0,(0,(0,(0,(false,(false,(false,(false,(0,(0,(0,(0,(0,(false,([],([],(0,(0,(0,(0,(0,(false,(false,(false,(0,(false,(0,([],([],([],()))))))))))))))))))))))))))))))))))
def Zw3 (s:Tup ZaO):Tup Zih:=(Zez s,(Zcq s,((ZdG s).1,((ZdG s).2.1,((Zd4 s).1,((Zd4 s).2.1,((Zd4 s).2.2.1,((Zd4 s).2.2.2.1,((Zd4 s).2.2.2.2.1,((Zd4 s).2.2.2.2.2.1,((Zd4 s).2.2.2.2.2.2.1,((Zd4 s).2.2.2.2.2.2.2.1,
 ((ZbE s).1,((ZbE s).2.1,((ZbE s).2.2.1,((ZbE s).2.2.2.1,((ZbE s).2.2.2.2.1,((ZbE s).2.2.2.2.2.1,((ZbE s).2.2.2.2.2.2.1,((ZbE s).2.2.2.2.2.2.2.1,
 ((Zcz s).1,((Zcz s).2.1,((Zcz s).2.2.1,((Zcz s).2.2.2.1,((Zcz s).2.2.2.2.1,((Zcz s).2.2.2.2.2.1,((Zcz s).2.2.2.2.2.2.1,((Zp3 s).1,((Zp3 s).2.1,(ZxS s,(ZoE s,Zq0 s)))))))))))))))))))))))))))))))
def ZiA (s:Tup ZaO):Tup Zih:=if ZaB s&&(ZuP s&&Zu9 s)then Zw3 s else Ztb
theorem Zof (s:Tup ZaO) (h:Zal s):r153 (s,())=some ((ZiA s,()),()):=by
 unfold r153 m153 ZiA
 refine Zaa (Zbg s h) ?_
 cases ZaB s with
 |false=>rfl
 |true=>
  refine Zaa (Zgl s) ?_
  cases ZuP s with
  |false=>rfl
  |true=>
   refine Zaa (Zfb s) ?_
   cases Zu9 s with
   |false=>rfl
   |true=>exact Zaa (ZcI s h) (Zaa (Zkc s h) rfl)
theorem ZoF (s:Tup ZaO) (h:Zal s):r237 (s,())=some ((ZiA s,()),()):=by
 unfold r237 m237 ZiA
 have h':=h
 obtain ⟨h1,h2,h3,h4,h5,h6⟩:=h
 refine Zaa (Za4 s h') ?_
 cases ZaB s with
 |false=>rfl
 |true=>
  refine Zaa (ZgN s) ?_
  cases ZuP s with
  |false=>rfl
  |true=>
   refine Zaa (ZfT s) ?_
   cases Zu9 s with
   |false=>rfl
   |true=>
    refine Zaa (Zen (Zez s) h1) ?_
    rw[Zbn (show 0+(Zcq s).length≤E.most .i by simp only[E.most];omega)]
    exact Zaa (ZiS (ZdG s) h3) (Zaa (Zep (Zdh (ZbE s)) h5.1) (Zaa (Zkn s h') rfl))
theorem mod256 (x:Int):0≤x%256∧x%256≤255:=by omega
theorem ZaZ (y:PTup i316):r316 y=some (((y.1:Int)%256,()),()):=by
 unfold r316 m316
 rw[Zdq]
theorem Zaw (y:PTup i230):r230 y=some (((y.1:Int)%256,()),()):=by
 unfold r230 m230
 rw[Zdq]
theorem Zek (y:PTup i315):r315 y=some (((y.1:Int)%65536,()),()):=by
 unfold r315 m315
 rw[Zm9]
theorem ZbO (y:PTup i229):r229 y=some (((y.1:Int)%65536,()),()):=by
 unfold r229 m229
 rw[Zm9]
def Zcu (b:Bool):Int:=if b then 1 else 0
theorem Zlp (y:PTup i353):r353 y=some ((Zcu y.1,()),()):=by
 unfold r353 m353 Zcu
 obtain ⟨b,_⟩:=y
 cases b<;>rfl
theorem ZiR (y:PTup i343):r343 y=some ((Zcu y.1,()),()):=by
 unfold r343 m343 Zcu
 obtain ⟨b,_⟩:=y
 cases b<;>rfl
theorem Zbb (b:Bool):0≤Zcu b∧Zcu b≤1:=by cases b<;>simp[Zcu]
def ZkB (lo hi:Int):Int:=lo%256+256*(hi%256)
theorem Zel (y:PTup i261):r261 y=some ((ZkB y.1 y.2.1,()),()):=by
 unfold r261 m261 ZkB
 obtain ⟨lo,hi,_⟩:=y
 simp only[ZaZ,Option.bind_some]
 have h1:=mod256 lo
 have h2:=mod256 hi
 rw[Zas (x:=256*(hi%256)) (by omega) (by omega),Zas (by omega) (by omega)]
theorem Zf6 (y:PTup i227):r227 y=some ((ZkB y.1 y.2.1,()),()):=by
 unfold r227 m227 ZkB
 obtain ⟨lo,hi,_⟩:=y
 simp only[Zaw,Option.bind_some]
 have h1:=mod256 lo
 have h2:=mod256 hi
 rw[Zas (x:=256*(hi%256)) (by omega) (by omega),Zas (by omega) (by omega)]
theorem ZgK (y:PTup i358):r358 y=some ((eqI ((y.1:Int)%256) 0,(ltI 127 ((y.1:Int)%256),())),()):=by
 unfold r358 m358
 simp only[ZaZ,Option.bind_some]
theorem Zha (y:PTup i347):r347 y=some ((eqI ((y.1:Int)%256) 0,(ltI 127 ((y.1:Int)%256),())),()):=by
 unfold r347 m347
 simp only[Zaw,Option.bind_some]
def addS (a b:Int) (c:Bool):Int:=a%256+b%256+Zcu c
theorem ZlB (y:PTup i356):r356 y=some ((addS y.1 y.2.1 y.2.2.1%256,(ltI 255 (addS y.1 y.2.1 y.2.2.1),())),()):=by
 unfold r356 m356 addS
 obtain ⟨a,b,c,_⟩:=y
 simp only[ZaZ,Zlp,Option.bind_some]
 have h1:=mod256 a
 have h2:=mod256 b
 have h3:=Zbb c
 rw[Zas (x:=a%256+b%256) (by omega) (by omega),Zas (x:=a%256+b%256+Zcu c) (by omega) (by omega)]
theorem Zri (y:PTup i376):r376 y=some ((addS y.1 y.2.1 y.2.2.1%256,(ltI 255 (addS y.1 y.2.1 y.2.2.1),())),()):=by
 unfold r376 m376 addS
 obtain ⟨a,b,c,_⟩:=y
 simp only[Zaw,ZiR,Option.bind_some]
 have h1:=mod256 a
 have h2:=mod256 b
 have h3:=Zbb c
 rw[Zas (x:=a%256+b%256) (by omega) (by omega),Zas (x:=a%256+b%256+Zcu c) (by omega) (by omega)]
def subS (a b:Int) (c:Bool):Int:=a%256-b%256-1+Zcu c
theorem ZlJ (y:PTup i357):r357 y=some ((subS y.1 y.2.1 y.2.2.1%256,(leI 0 (subS y.1 y.2.1 y.2.2.1),())),()):=by
 unfold r357 m357 subS
 obtain ⟨a,b,c,_⟩:=y
 simp only[ZaZ,Zlp,Option.bind_some]
 have h1:=mod256 a
 have h2:=mod256 b
 have h3:=Zbb (!c)
 rw[Zas (x:=a%256-b%256) (by omega) (by omega),Zas (x:=a%256-b%256-Zcu (!c)) (by omega) (by omega),show a%256-b%256-Zcu (!c)=a%256-b%256-1+Zcu c by cases c<;>simp[Zcu]]
theorem Zrm (y:PTup i346):r346 y=some ((subS y.1 y.2.1 y.2.2.1%256,(leI 0 (subS y.1 y.2.1 y.2.2.1),())),()):=by
 unfold r346 m346 subS
 obtain ⟨a,b,c,_⟩:=y
 simp only[Zaw,ZiR,Option.bind_some]
 have h1:=mod256 a
 have h2:=mod256 b
 have h3:=Zbb c
 rw[Zas (x:=a%256-b%256) (by omega) (by omega),Zas (x:=a%256-b%256-1) (by omega) (by omega),Zas (x:=a%256-b%256-1+Zcu c) (by omega) (by omega)]
theorem ZbW {n:Int} (h:0≤n∧n≤29):n=0∨n=1∨n=2∨n=3∨n=4∨n=5∨n=6∨n=7∨n=8∨n=9∨n=10∨n=11∨n=12∨n=13∨n=14∨n=15∨n=16∨n=17∨n=18∨n=19∨n=20∨n=21∨n=22∨n=23∨n=24∨n=25∨n=26∨n=27∨n=28∨n=29:=by omega
def ZbQ (n:Int):Int:=if 0≤n∧n≤29 then ([1,2,3,3,2,2,2,2,2,2,1,1,1,1,3,3,3,3,3,3,3,1,1,1,1,1,1,1,1,3]:List Int).getD n.toNat 1 else 1
def Za0 (n:Int):Int:=if 0≤n∧n≤29 then ([2,2,4,4,2,2,2,2,2,2,2,2,2,2,4,5,3,3,3,3,6,6,3,4,6,2,2,2,2,4]:List Int).getD n.toNat 2 else 2
def ZaG (n:Int):Int:=if n=2∨n=14∨n=29 then 1 else if n=3∨n=15 then 2 else 0
theorem Zkd (y:PTup i313):r313 y=some ((ZbQ y.1,()),()):=by
 obtain ⟨(n:Int),_⟩:=y
 show r313 (n,())=some ((ZbQ n,()),())
 by_cases h:0≤n∧n≤29
 ·rcases ZbW h with rfl|rfl|rfl|rfl|rfl|rfl|rfl|rfl|rfl|rfl|rfl|rfl|rfl|rfl|rfl|rfl|rfl|rfl|rfl|rfl|rfl|rfl|rfl|rfl|rfl|rfl|rfl|rfl|rfl|rfl<;>rfl
 ·have e: ∀c:Int,0≤c→c≤29→eqI n c=false:=fun c h0 h1=>Zag (by omega)
  have e2: ∀a b:Int,0≤a→b≤29→inR a b n=false:=fun a b h0 h1=>by
   cases hh:inR a b n with
   |false=>rfl
   |true=>have:=ZbI.1 hh;omega
  unfold r313 m313 ZbQ
  rw[if_neg h]
  simp[e,e2,ZbM]
theorem Zko (y:PTup i226):r226 y=some ((ZbQ y.1,()),()):=by
 obtain ⟨(n:Int),_⟩:=y
 show r226 (n,())=some ((ZbQ n,()),())
 by_cases h:0≤n∧n≤29
 ·rcases ZbW h with rfl|rfl|rfl|rfl|rfl|rfl|rfl|rfl|rfl|rfl|rfl|rfl|rfl|rfl|rfl|rfl|rfl|rfl|rfl|rfl|rfl|rfl|rfl|rfl|rfl|rfl|rfl|rfl|rfl|rfl<;>rfl
 ·have e2:inR 0 29 n=false:=by
   cases hh:inR 0 29 n with
   |false=>rfl
   |true=>exact absurd (ZbI.1 hh) h
  unfold r226 m226 ZbQ
  rw[if_neg h]
  simp only[ZbV,Option.bind_some,e2,Bool.not_false,cond_true]
theorem Zcf (y:PTup i258):r258 y=some ((Za0 y.1,()),()):=by
 obtain ⟨(n:Int),_⟩:=y
 show r258 (n,())=some ((Za0 n,()),())
 by_cases h:0≤n∧n≤29
 ·rcases ZbW h with rfl|rfl|rfl|rfl|rfl|rfl|rfl|rfl|rfl|rfl|rfl|rfl|rfl|rfl|rfl|rfl|rfl|rfl|rfl|rfl|rfl|rfl|rfl|rfl|rfl|rfl|rfl|rfl|rfl|rfl<;>rfl
 ·have e: ∀c:Int,0≤c→c≤29→eqI n c=false:=fun c h0 h1=>Zag (by omega)
  unfold r258 m258 Za0
  rw[if_neg h]
  simp[e]
theorem Zci (y:PTup i175):r175 y=some ((Za0 y.1,()),()):=by
 obtain ⟨(n:Int),_⟩:=y
 show r175 (n,())=some ((Za0 n,()),())
 by_cases h:0≤n∧n≤29
 ·rcases ZbW h with rfl|rfl|rfl|rfl|rfl|rfl|rfl|rfl|rfl|rfl|rfl|rfl|rfl|rfl|rfl|rfl|rfl|rfl|rfl|rfl|rfl|rfl|rfl|rfl|rfl|rfl|rfl|rfl|rfl|rfl<;>rfl
 ·have e2:inR 0 29 n=false:=by
   cases hh:inR 0 29 n with
   |false=>rfl
   |true=>exact absurd (ZbI.1 hh) h
  unfold r175 m175 Za0
  rw[if_neg h]
  simp only[ZbV,Option.bind_some,e2,Bool.not_false,cond_true]
theorem ZlF (y:PTup i314):r314 y=some ((ZaG y.1,()),()):=by
 obtain ⟨(n:Int),_⟩:=y
 show r314 (n,())=some ((ZaG n,()),())
 by_cases h:0≤n∧n≤29
 ·rcases ZbW h with rfl|rfl|rfl|rfl|rfl|rfl|rfl|rfl|rfl|rfl|rfl|rfl|rfl|rfl|rfl|rfl|rfl|rfl|rfl|rfl|rfl|rfl|rfl|rfl|rfl|rfl|rfl|rfl|rfl|rfl<;>rfl
 ·have e: ∀c:Int,0≤c→c≤29→eqI n c=false:=fun c h0 h1=>Zag (by omega)
  unfold r314 m314 ZaG
  rw[if_neg (by omega),if_neg (by omega)]
  simp[e]
theorem Zmr (y:PTup i228):r228 y=some ((ZaG y.1,()),()):=by
 obtain ⟨(n:Int),_⟩:=y
 show r228 (n,())=some ((ZaG n,()),())
 by_cases h:0≤n∧n≤29
 ·rcases ZbW h with rfl|rfl|rfl|rfl|rfl|rfl|rfl|rfl|rfl|rfl|rfl|rfl|rfl|rfl|rfl|rfl|rfl|rfl|rfl|rfl|rfl|rfl|rfl|rfl|rfl|rfl|rfl|rfl|rfl|rfl<;>rfl
 ·have e: ∀c:Int,0≤c→c≤29→eqI n c=false:=fun c h0 h1=>Zag (by omega)
  unfold r228 m228 ZaG
  rw[if_neg (by omega),if_neg (by omega)]
  simp[e]
structure MemM where
 ram:List Int
 bank:Int
structure CpuM where
 a:Int
 x:Int
 s:Int
 pc:Int
 z:Bool
 n:Bool
 c:Bool
 i:Bool
structure PpuM where
 T:Int
 ctrl:Int
 scroll:Int
 addr:Int
 pal:Int
 blank:Bool
 table:List Int
 dots:List Int
structure ApuM where
 T:Int
 period:Int
 count:Int
 bit:Int
 len:Int
 asks:Bool
 irq:Bool
structure PadM where
 held:Bool
 shift:Int
def MemM.t (x:MemM):Tup memL:=(x.ram,(x.bank,()))
def CpuM.t (c:CpuM):Tup cpuL:=(c.a,(c.x,(c.s,(c.pc,(c.z,(c.n,(c.c,(c.i,()))))))))
def PpuM.t (p:PpuM):Tup ppuL:=(p.T,(p.ctrl,(p.scroll,(p.addr,(p.pal,(p.blank,(p.table,(p.dots,()))))))))
def ApuM.t (a:ApuM):Tup apuL:=(a.T,(a.period,(a.count,(a.bit,(a.len,(a.asks,(a.irq,())))))))
def PadM.t (x:PadM):Tup padL:=(x.held,(x.shift,()))
def memM (x:Tup memL):MemM:=⟨x.1,x.2.1⟩
def cpuM (c:Tup cpuL):CpuM:=⟨c.1,c.2.1,c.2.2.1,c.2.2.2.1,c.2.2.2.2.1,c.2.2.2.2.2.1,c.2.2.2.2.2.2.1,c.2.2.2.2.2.2.2.1⟩
def ppuM (p:Tup ppuL):PpuM:=⟨p.1,p.2.1,p.2.2.1,p.2.2.2.1,p.2.2.2.2.1,p.2.2.2.2.2.1,p.2.2.2.2.2.2.1,p.2.2.2.2.2.2.2.1⟩
def apuM (a:Tup apuL):ApuM:=⟨a.1,a.2.1,a.2.2.1,a.2.2.2.1,a.2.2.2.2.1,a.2.2.2.2.2.1,a.2.2.2.2.2.2.1⟩
def padM (x:Tup padL):PadM:=⟨x.1,x.2.1⟩
def Zm4 (l:List Int):Prop:= ∀n,n∈l→0≤n∧n≤255
structure ImgP (f:List (List Int)):Prop where
 banks: ∀b,b∈f→b.length=256∧Zm4 b
 lo:1≤f.length
 hi:f.length≤8
structure RamP (x:MemM):Prop where
 len:x.ram.length=512
 bytes:Zm4 x.ram
structure MemP (f:List (List Int)) (x:MemM):Prop where
 img:ImgP f
 ram:RamP x
 b0:0≤x.bank
 b1:x.bank< (f.length:Int)
structure CpuP (c:CpuM):Prop where
 a:0≤c.a∧c.a≤255
 x:0≤c.x∧c.x≤255
 s:0≤c.s∧c.s≤255
 pc:0≤c.pc∧c.pc≤65535
theorem Ziy {lo hi:Int} {l:List Int}:allR lo hi l=true↔ ∀n,n∈l→lo≤n∧n≤hi:=by
 unfold allR
 rw[List.all_eq_true]
 exact ⟨fun h n hn=>ZbI.1 (h n hn),fun h n hn=>ZbI.2 (h n hn)⟩
theorem Ze4 {a b:Int}:eqI a b=true↔a=b:=by rw[ZbN];simp
theorem ZgO {a b:Int}:leI a b=true↔a≤b:=by simp[leI]
theorem ZqK {f:List (List Int)}:ZgE f=true↔ImgP f:=by
 unfold ZgE
 rw[Bool.and_eq_true,List.all_eq_true,ZbI]
 constructor
 ·rintro ⟨h,h1,h2⟩
  refine ⟨fun b hb=> ?_,by omega,by omega⟩
  have:=h b hb
  unfold ZgA at this
  rw[Bool.and_eq_true,Ze4,Ziy]at this
  exact ⟨by omega,this.2⟩
 ·rintro ⟨h,h1,h2⟩
  refine ⟨fun b hb=> ?_,by omega,by omega⟩
  unfold ZgA
  rw[Bool.and_eq_true,Ze4,Ziy]
  exact ⟨by have:=(h b hb).1;omega,(h b hb).2⟩
theorem Zfx {f:List (List Int)} {x:MemM}:Zi0 f x.t=true↔MemP f x:=by
 unfold Zi0 MemM.t
 simp only[Bool.and_eq_true,ZqK,Ze4,Ziy,ZbI]
 constructor
 ·rintro ⟨h,h1,h2,h3,h4⟩
  exact ⟨h,⟨by omega,h2⟩,h3,by omega⟩
 ·rintro ⟨h,⟨h1,h2⟩,h3,h4⟩
  exact ⟨h,by omega,h2,h3,by omega⟩
theorem ZiF {c:CpuM}:Zfj c.t=true↔CpuP c:=by
 unfold Zfj CpuM.t
 simp only[Bool.and_eq_true,ZbI]
 constructor
 ·rintro ⟨h,h1,h2,h3⟩;exact ⟨h,h1,h2,h3⟩
 ·rintro ⟨h,h1,h2,h3⟩;exact ⟨h,h1,h2,h3⟩
theorem ImgP.small {f:List (List Int)} (h:ImgP f):small f:=by
 have key: ∀g:List (List Int),(∀b,b∈g→b.length=256)→bulk g=256*g.length:=by
  intro g
  induction g with
  |nil=>intro _;rfl
  |cons b g ih=>
   intro hb
   simp only[bulk,List.length_cons]
   rw[ih (fun b hg=>hb b (List.mem_cons_of_mem _ hg)),hb b List.mem_cons_self]
   omega
 have hi:=h.hi
 refine ⟨by omega,fun l hl=> ?_,?_⟩
 ·have:=(h.banks l hl).1;omega
 ·rw[key f fun b hb=>(h.banks b hb).1];omega
def Zgu (c:CpuM) (v:Int):CpuM:={c with a:=v%256,z:=eqI (v%256) 0,n:=ltI 127 (v%256)}
def ZmX (c:CpuM) (v:Int):CpuM:={c with x:=v%256,z:=eqI (v%256) 0,n:=ltI 127 (v%256)}
def wfT (c:CpuM) (f:Int):CpuM:={c with z:=neI (bAnd .i64 f 2) 0,n:=neI (bAnd .i64 f 128) 0,c:=neI (bAnd .i64 f 1) 0,i:=neI (bAnd .i64 f 4) 0}
def Zlq (c:CpuM):Int:=Zcu c.c+2*Zcu c.z+4*Zcu c.i+128*Zcu c.n
theorem ZbC (c:CpuM) (v:Int):r355 (c.t,(v,()))=some (((Zgu c v).t,()),()):=by
 unfold r355 m355
 simp only[ZaZ,ZgK,Option.bind_some]
 rfl
theorem ZbP (c:CpuM) (v:Int):r304 (c.t,(v,()))=some (((Zgu c v).t,()),()):=by
 unfold r304 m304
 simp only[Zaw,Zha,Option.bind_some]
 rfl
theorem Zie (c:CpuM) (v:Int):r359 (c.t,(v,()))=some (((ZmX c v).t,()),()):=by
 unfold r359 m359
 simp only[ZaZ,ZgK,Option.bind_some]
 rfl
theorem Zin (c:CpuM) (v:Int):r348 (c.t,(v,()))=some (((ZmX c v).t,()),()):=by
 unfold r348 m348
 simp only[Zaw,Zha,Option.bind_some]
 rfl
theorem ZoB {c:CpuM} {v:Int} (h:CpuP c):CpuP (Zgu c v):=⟨mod256 v,h.x,h.s,h.pc⟩
theorem ZxP {c:CpuM} {v:Int} (h:CpuP c):CpuP (ZmX c v):=⟨h.a,mod256 v,h.s,h.pc⟩
theorem ZkA (c:CpuM) (f:Int):r362 (c.t,(f,()))=some (((wfT c f).t,()),()):=rfl
theorem ZkI (c:CpuM) (f:Int):r279 (c.t,(f,()))=some (((wfT c f).t,()),()):=rfl
theorem Zx3 {c:CpuM} {f:Int} (h:CpuP c):CpuP (wfT c f):=⟨h.a,h.x,h.s,h.pc⟩
theorem Zpq (c:CpuM):r319 (c.t,())=some ((Zlq c,()),()):=by
 unfold r319 m319 Zlq
 simp only[Zlp,Option.bind_some,CpuM.t]
 obtain ⟨a,x,s,pc,z,n,c,i⟩:=c
 simp only
 cases z<;>cases n<;>cases c<;>cases i<;>rfl
theorem Zp4 (c:CpuM):r294 (c.t,())=some ((Zlq c,()),()):=by
 unfold r294 m294 Zlq
 simp only[ZiR,Option.bind_some,CpuM.t]
 obtain ⟨a,x,s,pc,z,n,c,i⟩:=c
 simp only
 cases z<;>cases n<;>cases c<;>cases i<;>rfl
def rgT (a:Int):Int×Int:=
 let b:=a%65536
 if b<8192 then (1,b%512)else if b<16384 then (2,b%8)else if b<16388 then (3,b%4)else if b=16406 then (4,0)else if b<32768 then (7,0)else if b<49152 then (5,b%256)else (6,b%256)
theorem ZaJ {a b:Int} (h:0≤a):Int.tmod a b=a%b:=Int.tmod_eq_emod_of_nonneg h
theorem Zpr (a:Int):r257 (a,())=some (((rgT a).1,((rgT a).2,())),()):=by
 unfold r257 m257 rgT
 simp only[Zek,Option.bind_some]
 have h0:0≤a%65536:=by omega
 generalize a%65536=b at*
 rw[ZaJ h0,ZaJ h0,ZaJ h0,ZaJ h0]
 by_cases h1:b<8192
 ·rw[Zaj h1,if_pos h1];rfl
 rw[Zam h1,if_neg h1,cond_false]
 by_cases h1:b<16384
 ·rw[Zaj h1,if_pos h1];rfl
 rw[Zam h1,if_neg h1,cond_false]
 by_cases h1:b<16388
 ·rw[Zaj h1,if_pos h1];rfl
 rw[Zam h1,if_neg h1,cond_false]
 by_cases h1:b=16406
 ·rw[Zao h1,if_pos h1];rfl
 rw[Zag h1,if_neg h1,cond_false]
 by_cases h1:b<32768
 ·rw[Zaj h1,if_pos h1];rfl
 rw[Zam h1,if_neg h1,cond_false]
 by_cases h1:b<49152
 ·rw[Zaj h1,if_pos h1];rfl
 rw[Zam h1,if_neg h1,cond_false]
theorem ZbK (y:PTup i257):r257 y=some (((rgT y.1).1,((rgT y.1).2,())),()):=Zpr y.1
theorem Zp6 (a:Int):r173 (a,())=some (((rgT a).1,((rgT a).2,())),()):=by
 unfold r173 m173 rgT
 simp only[ZbO,Option.bind_some]
 have h0:0≤a%65536:=by omega
 generalize a%65536=b at*
 rw[ZaJ h0,ZaJ h0,ZaJ h0,ZaJ h0]
 by_cases h1:b<8192
 ·rw[Zaj h1,if_pos h1];rfl
 rw[Zam h1,if_neg h1,cond_false]
 by_cases h1:b<16384
 ·rw[Zaj h1,if_pos h1];rfl
 rw[Zam h1,if_neg h1,cond_false]
 by_cases h1:b<16388
 ·rw[Zaj h1,if_pos h1];rfl
 rw[Zam h1,if_neg h1,cond_false]
 by_cases h1:b=16406
 ·rw[Zao h1,if_pos h1];rfl
 rw[Zag h1,if_neg h1,cond_false]
 by_cases h1:b<32768
 ·rw[Zaj h1,if_pos h1];rfl
 rw[Zam h1,if_neg h1,cond_false]
 by_cases h1:b<49152
 ·rw[Zaj h1,if_pos h1];rfl
 rw[Zam h1,if_neg h1,cond_false]
theorem Zbs (y:PTup i173):r173 y=some (((rgT y.1).1,((rgT y.1).2,())),()):=Zp6 y.1
theorem Zes (a:Int):((rgT a).1=1∧0≤(rgT a).2∧(rgT a).2<512)∨((rgT a).1=2∧0≤(rgT a).2∧(rgT a).2<8)∨((rgT a).1=3∧0≤(rgT a).2∧(rgT a).2<4)∨((rgT a).1=4∧(rgT a).2=0)∨((rgT a).1=5∧0≤(rgT a).2∧(rgT a).2<256)∨((rgT a).1=6∧0≤(rgT a).2∧(rgT a).2<256)∨((rgT a).1=7∧(rgT a).2=0):=by
 unfold rgT
 simp only
 split
 ·left;exact ⟨rfl,by show 0≤a%65536%512;omega,by show a%65536%512<512;omega⟩
 right
 split
 ·left;exact ⟨rfl,by show 0≤a%65536%8;omega,by show a%65536%8<8;omega⟩
 right
 split
 ·left;exact ⟨rfl,by show 0≤a%65536%4;omega,by show a%65536%4<4;omega⟩
 right
 split
 ·left;exact ⟨rfl,rfl⟩
 right
 split
 ·right;right;exact ⟨rfl,rfl⟩
 split
 ·left;exact ⟨rfl,by show 0≤a%65536%256;omega,by show a%65536%256<256;omega⟩
 ·right;left;exact ⟨rfl,by show 0≤a%65536%256;omega,by show a%65536%256<256;omega⟩
def Zba (f:List (List Int)) (x:MemM) (a:Int):Int:=
 if (rgT a).1=1 then rdE .i x.ram (rgT a).2 else if (rgT a).1=5 then rdI (rdE .n f x.bank) (rgT a).2 else if (rgT a).1=6 then rdI (rdE .n f ((f.length:Int)-1)) (rgT a).2 else 0
theorem ZdT {e:E} {l:List e.C} {i:Int} (h0:0≤i) (h1:i< (l.length:Int)):rdE e l i∈l:=by
 have:i.toNat<l.length:=by omega
 rw[show rdE e l i=l[i.toNat] by simp[rdE,List.getD,this]]
 exact List.getElem_mem _
theorem ZuV {l:List Int} {i:Int} (h0:0≤i) (h1:i< (l.length:Int)):rdI l i∈l:=ZdT (e:= .i) h0 h1
theorem ZjN {f:List (List Int)} {x:MemM} (h:MemP f x) (a:Int):0≤Zba f x a∧Zba f x a≤255:=by
 have hf:=h.img.lo
 have hb0:=h.b0
 have hb1:=h.b1
 have hl:=h.ram.len
 unfold Zba
 have z:(0:Int)≤0∧(0:Int)≤255:=by decide
 rcases Zes a with ⟨e,h0,h1⟩| ⟨e,h0,h1⟩| ⟨e,h0,h1⟩| ⟨e,h0⟩| ⟨e,h0,h1⟩| ⟨e,h0,h1⟩| ⟨e,h0⟩<;>rw[e]
 ·exact h.ram.bytes _ (ZdT (e:= .i) h0 (by omega))
 ·exact z
 ·exact z
 ·exact z
 ·have hm:=h.img.banks _ (ZdT (e:= .n) hb0 hb1)
  exact hm.2 _ (ZuV h0 (by have:=hm.1;omega))
 ·have hm:=h.img.banks _ (ZdT (e:= .n) (l:=f) (i:=(f.length:Int)-1) (by omega) (by omega))
  exact hm.2 _ (ZuV h0 (by have:=hm.1;omega))
 ·exact z
theorem ZbJ (f:List (List Int)) (x:MemM) (a:Int) (h:MemP f x):r262 ((f,()),(x.t,(a,())))=some ((Zba f x a,()),()):=by
 have hf:=h.img.lo
 have hg:=h.img.hi
 have hb0:=h.b0
 have hb1:=h.b1
 have hl:=h.ram.len
 unfold r262 m262 Zba
 simp only[ZbK,Option.bind_some,Zad,MemM.t]
 rw[Zas (x:=(f.length:Int)-1) (by omega) (by omega)]
 rcases Zes a with ⟨e,h0,h1⟩| ⟨e,h0,h1⟩| ⟨e,h0,h1⟩| ⟨e,h0⟩| ⟨e,h0,h1⟩| ⟨e,h0,h1⟩| ⟨e,h0⟩<;>rw[e]
 ·rw[Zay h0,Zaj (by omega)];rfl
 ·rfl
 ·rfl
 ·rfl
 ·have hm:=(h.img.banks _ (ZdT (e:= .n) hb0 hb1)).1
  rw[Zay hb0,Zaj hb1,Zay h0,Zaj (show (rgT a).2< ((rdE .n f x.bank:List Int).length:Int) by omega)];rfl
 ·have hm:=(h.img.banks _ (ZdT (e:= .n) (l:=f) (i:=(f.length:Int)-1) (by omega) (by omega))).1
  rw[Zay (show 0≤(f.length:Int)-1 by omega),Zaj (show (f.length:Int)-1< (f.length:Int) by omega),Zay h0,Zaj (show (rgT a).2< ((rdE .n f ((f.length:Int)-1):List Int).length:Int) by omega)];rfl
 ·rfl
theorem Zg8 (f:List (List Int)) (x:MemM) (a:Int) (h:MemP f x):r288 ((f,()),(x.t,(a,())))=some ((Zba f x a,()),()):=by
 have hf:=h.img.lo
 have hg:=h.img.hi
 have hb0:=h.b0
 have hb1:=h.b1
 have hl:=h.ram.len
 unfold r288 m288 Zba
 simp only[Zbs,Option.bind_some,Zad,MemM.t]
 rw[Zas (x:=(f.length:Int)-1) (by omega) (by omega)]
 rcases Zes a with ⟨e,h0,h1⟩| ⟨e,h0,h1⟩| ⟨e,h0,h1⟩| ⟨e,h0⟩| ⟨e,h0,h1⟩| ⟨e,h0,h1⟩| ⟨e,h0⟩<;>rw[e]
 ·rw[Zay h0,Zaj (by omega)];rfl
 ·rfl
 ·rfl
 ·rfl
 ·have hm:=(h.img.banks _ (ZdT (e:= .n) hb0 hb1)).1
  rw[Zay hb0,Zaj hb1,Zay h0,Zaj (show (rgT a).2< ((rdE .n f x.bank:List Int).length:Int) by omega)];rfl
 ·have hm:=(h.img.banks _ (ZdT (e:= .n) (l:=f) (i:=(f.length:Int)-1) (by omega) (by omega))).1
  rw[Zay (show 0≤(f.length:Int)-1 by omega),Zaj (show (f.length:Int)-1< (f.length:Int) by omega),Zay h0,Zaj (show (rgT a).2< ((rdE .n f ((f.length:Int)-1):List Int).length:Int) by omega)];rfl
 ·rfl
theorem ZqL (f:List (List Int)) (x:MemM) (h:MemP f x):r80 ((f,()),(x.t,()))=some ((true,()),()):=by
 have:=ZgI f x.t h.img.small (by show x.ram.length≤_;have:=h.ram.len;omega)
 rw[Zfx.2 h]at this
 exact this
theorem Zmq (f:List (List Int)) (x:MemM) (h:MemP f x):r70 ((f,()),(x.t,()))=some ((true,()),()):=by
 have:=Zg6 f x.t h.img.small (by show x.ram.length≤_;have:=h.ram.len;omega)
 rw[Zfx.2 h]at this
 exact this
theorem ZlG (f:List (List Int)) (x:MemM) (a:Int) (h:MemP f x):r371 ((f,()),(x.t,(a,())))=some ((Zba f x a,()),()):=by
 unfold r371 m371
 exact Zaa (ZqL f x h) (Zaa (ZbJ f x a h) rfl)
theorem Zdn (f:List (List Int)) (x:MemM) (a:Int) (h:MemP f x):r225 ((f,()),(x.t,(a,())))=some ((Zba f x a,()),()):=by
 unfold r225 m225
 exact Zaa (Zmq f x h) (Zaa (Zg8 f x a h) rfl)
def ZkF (f:List (List Int)) (x:MemM) (a v:Int):MemM:=
 if (rgT a).1=1 then {x with ram:=x.ram.set (rgT a).2.toNat (v%256)}else if (rgT a).1=5∨(rgT a).1=6 then {x with bank:=(v%256)% (f.length:Int)}else x
theorem Zm4.set {l:List Int} (h:Zm4 l) (i:Nat) {v:Int} (hv:0≤v∧v≤255):Zm4 (l.set i v):=fun n hn=>by
 rcases List.mem_or_eq_of_mem_set hn with h1|h1
 ·exact h n h1
 ·rw[h1];exact hv
theorem ZuQ {f:List (List Int)} {x:MemM} (h:MemP f x) (a v:Int):MemP f (ZkF f x a v):=by
 have hf:=h.img.lo
 unfold ZkF
 split
 ·exact ⟨h.img,⟨by simp[h.ram.len],h.ram.bytes.set _ (mod256 v)⟩,h.b0,h.b1⟩
 split
 ·exact ⟨h.img,⟨h.ram.len,h.ram.bytes⟩,Int.emod_nonneg _ (by omega),Int.emod_lt_of_pos _ (by omega)⟩
 ·exact h
theorem ZlH (f:List (List Int)) (x:MemM) (a v:Int) (h:MemP f x):r324 (x.t,((f,()),(a,(v,()))))=some ((),((ZkF f x a v).t,())):=by
 have hf:=h.img.lo
 have hl:=h.ram.len
 unfold r324 m324 ZkF
 simp only[ZbK,ZaZ,Option.bind_some,Zad,MemM.t]
 have hv:=mod256 v
 rw[ZaJ hv.1,Zdg (show (f.length:Int)≠0 by omega)]
 rcases Zes a with ⟨e,h0,h1⟩| ⟨e,h0,h1⟩| ⟨e,h0,h1⟩| ⟨e,h0⟩| ⟨e,h0,h1⟩| ⟨e,h0,h1⟩| ⟨e,h0⟩<;>rw[e]
 ·rw[Zay h0,Zaj (by omega)];rfl
 all_goals rfl
theorem ZiT (x:MemM) (h:x.ram.length=512):r93 (x.t,())=some ((x.t,()),()):=ZiS x.t (by show x.ram.length≤_;omega)
theorem Zms (f:List (List Int)) (x:MemM) (a v:Int) (h:MemP f x):r300 ((f,()),(x.t,(a,(v,()))))=some (((ZkF f x a v).t,()),()):=by
 have hf:=h.img.lo
 have hl:=h.ram.len
 unfold r300 m300 ZkF
 refine Zaa (ZiT x hl) (Zaa (Zmq f x h) ?_)
 simp only[Zbs,Zaw,Option.bind_some,Zad,Bool.not_true,cond_false,MemM.t]
 have hv:=mod256 v
 rw[ZaJ hv.1,Zdg (show (f.length:Int)≠0 by omega)]
 rcases Zes a with ⟨e,h0,h1⟩| ⟨e,h0,h1⟩| ⟨e,h0,h1⟩| ⟨e,h0⟩| ⟨e,h0,h1⟩| ⟨e,h0,h1⟩| ⟨e,h0⟩<;>rw[e]
 ·rw[Zay h0,Zaj (by omega)];rfl
 all_goals rfl
def ZjP (x:MemM) (c:CpuM) (v:Int):MemM:={x with ram:=x.ram.set (256+c.s%256).toNat (v%256)}
def ZjO (c:CpuM):CpuM:={c with s:=(c.s-1)%256}
def ZfC (c:CpuM):CpuM:={c with s:=(c.s+1)%256}
def Ze8 (x:MemM) (c:CpuM):Int:=rdE .i x.ram (256+(c.s+1)%256)
theorem Zik {x:MemM} (h:RamP x) (c:CpuM) (v:Int):RamP (ZjP x c v):=⟨by simp[ZjP,h.len],h.bytes.set _ (mod256 v)⟩
theorem Zij {c:CpuM} (h:CpuP c):CpuP (ZjO c):=⟨h.a,h.x,mod256 _,h.pc⟩
theorem ZgT {c:CpuM} (h:CpuP c):CpuP (ZfC c):=⟨h.a,h.x,mod256 _,h.pc⟩
theorem Zto {x:MemM} (h:RamP x) (c:CpuM):0≤Ze8 x c∧Ze8 x c≤255:=by
 have:=mod256 (c.s+1)
 have hl:=h.len
 exact h.bytes _ (ZdT (e:= .i) (by omega) (by omega))
theorem ZfR (x:MemM) (c:CpuM) (v:Int) (h:RamP x) (hc:CpuP c):r318 (x.t,(c.t,(v,())))=some ((),((ZjP x c v).t,((ZjO c).t,()))):=by
 have hl:=h.len
 have hs:=hc.s
 unfold r318 m318 ZjP ZjO
 simp only[ZaZ,Option.bind_some,Zad,MemM.t,CpuM.t]
 have h1:=mod256 c.s
 rw[ZcN (by omega),Zas (x:=256+c.s%256) (by omega) (by omega),Zay (by omega),Zaj (by omega),Zas (x:=c.s-1) (by omega) (by omega)]
 rfl
theorem Zdo (x:MemM) (c:CpuM) (v:Int) (h:RamP x) (hc:CpuP c):r295 (x.t,(c.t,(v,())))=some (((ZjP x c v).t,((ZjO c).t,())),()):=by
 have hl:=h.len
 have hs:=hc.s
 unfold r295 m295 ZjP ZjO
 refine Zaa (ZiT x hl) ?_
 simp only[Zaw,Option.bind_some,Zad,MemM.t,CpuM.t]
 have h1:=mod256 c.s
 rw[ZcN (by omega),Zas (x:=256+c.s%256) (by omega) (by omega),Zay (by omega),Zaj (by omega),Zas (x:=c.s-1) (by omega) (by omega)]
 rfl
theorem ZfQ (x:MemM) (c:CpuM) (h:RamP x) (hc:CpuP c):r361 (x.t,(c.t,()))=some ((Ze8 x c,()),(x.t,((ZfC c).t,()))):=by
 have hl:=h.len
 have hs:=hc.s
 unfold r361 m361 Ze8 ZfC
 simp only[ZaZ,Option.bind_some,Zad,MemM.t,CpuM.t]
 rw[Zas (x:=c.s+1) (by omega) (by omega)]
 have h1:=mod256 (c.s+1)
 rw[ZcN (by omega),Zas (x:=256+(c.s+1)%256) (by omega) (by omega),Zay (by omega),Zaj (by omega)]
 rfl
theorem Zga (x:MemM) (c:CpuM) (h:RamP x) (hc:CpuP c):r303 (x.t,(c.t,()))=some (((ZfC c).t,(Ze8 x c,())),()):=by
 have hl:=h.len
 have hs:=hc.s
 have hb:=Zto h c
 unfold Ze8 at hb
 unfold r303 m303 Ze8 ZfC
 simp only[Zaw,Option.bind_some,Zad,MemM.t,CpuM.t]
 rw[Zas (x:=c.s+1) (by omega) (by omega)]
 have h1:=mod256 (c.s+1)
 rw[ZcN (by omega),Zas (x:=256+(c.s+1)%256) (by omega) (by omega),Zay (by omega),Zaj (by omega)]
 rw[show (rdE .i x.ram (256+(c.s+1)%256):Int)%256=rdE .i x.ram (256+(c.s+1)%256)from Int.emod_eq_of_lt hb.1 (Int.lt_of_le_of_lt hb.2 (by decide))]
 rfl

end Go.Proofs.YtleidaafbhojfaaGreatDoor.Plain
