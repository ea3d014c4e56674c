/- Plain laws of the printed functions: Cp, Obs, Lock, Ok, Ok2, Ok3, Copies, Bytes, Cpu. No condition beyond those that each lemma states. -/
import Derived.Test.YtcbdldlphpjmbaaGreatDoorX
import Derived.Test.YtcbdldlphpjmbaaGreatDoorFn1
set_option linter.unusedVariables false
set_option linter.unusedSimpArgs false
namespace Go.Proofs.YtcbdldlphpjmbaaGreatDoor.Plain
open Go Go.Tev
theorem ZgE (l:List Int) (hl:l.length≤4398046511104): ∀(k i:Nat) (out:List Int),i≤l.length→out.length=l.length→l.length-i<k→
  n6_0 k (l,()) () ((i:Int),(out,()))=some (Sum.inl ((l.length:Int),(out.take i++l.drop i,())),())
 |0,_,_,_,_,h=>absurd h (by omega)
 |k+1,i,out,hi,ho,hk=>by
  unfold n6_0 w6_0;simp only[Zr];by_cases h:i<l.length
  ·rw[Zk (by omega),Zq (by omega),Zk (by omega),Qg .i l i h,Qx (by omega)];simp only[Zb,Int.toNat_natCast];rw[ZgE l hl k (i+1) _ (by omega) (by simpa using ho) (by omega),Zpy h ho]
  ·have:i=l.length:=by omega
   subst this;rw[Zx (by omega),Zd,List.take_of_length_le (by omega),List.drop_length,List.append_nil]
theorem ZgF (l:List Int) (hl:l.length≤4398046511104):r6 (l,())=some ((l,()),()):=by
 unfold r6 m6 L6_0;simp only[Zr,Int.toNat_natCast];rw[ZP (by simp only[E.most];omega)];have:=ZgE l hl fuel 0 (List.replicate l.length 0) (by omega) (by simp) (by have:=Z6;omega);simp only[Int.natCast_zero]at this;simp only[Zb,this];simp[ZE]
def Wv:List (List Int)→Nat| []=>0|l::f=>l.length+Wv f
def small (f:List (List Int)):Prop:=f.length≤4398046511104∧(∀l,l∈f→l.length≤4398046511104)∧Wv f≤4398046511104
theorem Zfr (a b:List Int) (h1:a.length≤4398046511104) (hab:a.length=b.length): ∀(k i:Nat),i≤a.length→a.length-i<k→
  n8_0 k (a,(b,())) () ((i:Int),())=if a.drop i=b.drop i then some (Sum.inl ((a.length:Int),()),())else some (Sum.inr (false,()),())
 |0,_,_,h=>absurd h (by omega)
 |k+1,i,hi,hk=>by
  unfold n8_0 w8_0;simp only[Zr];by_cases h:i<a.length
  ·have hb:i<b.length:=by omega
   rw[Zk (by omega),Zq (by omega),Zk (by omega),Qg .i a i h,Qg .i b i hb,Qx (by omega)];simp only[Zb];rw[JL h,JL hb];by_cases hx:a[i]=b[i]
   ·rw[Q2 hx,Zd,Zfr a b h1 hab k (i+1) (by omega) (by omega)];simp only[List.cons.injEq,hx,true_and]
   ·rw[QW hx,Zb];simp only[List.cons.injEq,hx,false_and,if_false]
  ·have:i=a.length:=by omega
   subst this;rw[Zx (by omega)];simp[hab]
theorem Znb (a b:List Int) (h1:a.length≤4398046511104):r8 (a,(b,()))=some ((decide (a=b),()),()):=by
 unfold r8 m8 L8_0;simp only[Zr];by_cases h:a.length=b.length
 ·have:=Zfr a b h1 h fuel 0 (by omega) (by have:=Z6;omega);simp only[Int.natCast_zero,List.drop_zero]at this;rw[Q2 (by omega),Zd,this];by_cases e:a=b<;>simp[e,ZE]
 ·rw[QW (by omega),Zb];rw[show decide (a=b)=false from Zw (fun e=>h (by rw[e]))]
def left (n:Int) (k:Nat):Int:=if n< (k:Int)then-1 else n-(k:Int)
theorem Zfc (a b:List Int) (h1:a.length≤4398046511104): ∀(k i:Nat),i≤a.length→i≤b.length→a.length-i<k→
  n277_0 k (a,(b,())) () ((i:Int),())=if (a.drop i).take (b.length-i)=(b.drop i).take (a.length-i)then some (Sum.inl (((min a.length b.length:Nat):Int),()),())else some (Sum.inr (false,()),())
 |0,_,_,_,h=>absurd h (by omega)
 |k+1,i,hi,hj,hk=>by
  unfold n277_0 w277_0;simp only[Zr];by_cases h:i<a.length
  ·rw[Zk (show (i:Int)< (a.length:Int) by omega)];by_cases hb:i<b.length
   ·rw[Zk (by omega),Zq (by omega),Qg .i a i h,Qg .i b i hb,Qx (by omega)];simp only[Zb];rw[JL h,JL hb,show b.length-i=(b.length-(i+1))+1 by omega,show a.length-i=(a.length-(i+1))+1 by omega,List.take_succ_cons,List.take_succ_cons];by_cases hx:a[i]=b[i]
    ·rw[Q2 hx,Zd,Zfc a b h1 k (i+1) (by omega) (by omega) (by omega)];simp only[List.cons.injEq,hx,true_and]
    ·rw[QW hx,Zb];simp only[List.cons.injEq,hx,false_and,if_false]
   ·have:i=b.length:=by omega
    subst this;rw[Zx (by omega),Zb,Zd];simp only[Nat.sub_self,List.take_zero,List.drop_length,List.take_nil,if_true];rw[show min a.length b.length=b.length by omega]
  ·have:i=a.length:=by omega
   subst this;rw[Zx (by omega),Zd];simp only[Nat.sub_self,List.take_zero,List.drop_length,List.take_nil,if_true];rw[show min a.length b.length=a.length by omega]
def beg {α:Type} [DecidableEq α] (a b:List α):Bool:=decide (a.length≤b.length∧a=b.take a.length)
theorem Zfd (a b:List Int) (h1:a.length≤4398046511104):r277 (a,(b,()))=some ((beg a b,()),()):=by
 unfold r277 m277 L277_0;simp only[Zr];have:=Zfc a b h1 fuel 0 (by omega) (by omega) (by have:=Z6;omega);simp only[Int.natCast_zero,List.drop_zero,Nat.sub_zero]at this;rw[this];by_cases e:a.take b.length=b.take a.length
 ·rw[Ze e];simp only[Zo,ZE,Zr3,beg];by_cases hl:a.length≤b.length
  ·rw[List.take_of_length_le hl]at e;rw[ZC (show (a.length:Int)≤(b.length:Int) by omega),ZC ⟨hl,e⟩]
  ·rw[Zw (show¬(a.length:Int)≤(b.length:Int) by omega),Zw (fun h=>hl h.1)]
 ·rw[Zc e];simp only[Zo,ZE,beg];rw[Zw];rintro ⟨hl,h⟩;rw[List.take_of_length_le hl]at e;exact e h
theorem ZmT {α:Type} [DecidableEq α] {a b:List α} (h:a.length=b.length):beg a b=decide (a=b):=by
 unfold beg;congr 1;rw[eq_iff_iff];constructor
 ·rintro ⟨_,e⟩;rw[e,h,List.take_length]
 ·rintro rfl;simp
theorem Zel (a b:List Int) (h1:a.length≤4398046511104):r225 (a,(b,()))=some ((decide (a=b),()),()):=by
 unfold r225 m225;simp only[Zr];by_cases h:a.length=b.length
 ·rw[Zn (by omega),Zb,Zfd a b h1,ZmT h];rfl
 ·rw[Zi (by omega),Zd,Zw (fun e=>h (by rw[e]))]
theorem Zhc (a b:List Int) (h1:a.length≤4398046511104) (hab:a.length=b.length): ∀(k i:Nat),i≤a.length→a.length-i<k→
  n210_0 k (a,(b,((a.length:Int),()))) () ((i:Int),())=if a.drop i=b.drop i then some (Sum.inl ((a.length:Int),()),())else some (Sum.inr (false,()),())
 |0,_,_,h=>absurd h (by omega)
 |k+1,i,hi,hk=>by
  unfold n210_0 w210_0;simp only[Zr];by_cases h:i<a.length
  ·have hb:i<b.length:=by omega
   rw[Zk (by omega),Zq (by omega),Zk (by omega),Qg .i a i h,Qg .i b i hb,Qx (by omega)];simp only[Zb];rw[JL h,JL hb];by_cases hx:a[i]=b[i]
   ·rw[Q2 hx,Zd,Zhc a b h1 hab k (i+1) (by omega) (by omega)];simp only[List.cons.injEq,hx,true_and]
   ·rw[QW hx,Zb];simp only[List.cons.injEq,hx,false_and,if_false]
  ·have:i=a.length:=by omega
   subst this;rw[Zx (by omega)];simp[hab]
theorem Up (a b:List Int) (h1:a.length≤4398046511104):r210 (a,(b,()))=some ((decide (a=b),()),()):=by
 unfold r210 m210 L210_0;simp only[Zr];by_cases h:a.length=b.length
 ·have:=Zhc a b h1 h fuel 0 (by omega) (by have:=Z6;omega);simp only[Int.natCast_zero,List.drop_zero]at this;rw[Q2 (by omega),Zd,this];by_cases e:a=b<;>simp[e,ZE]
 ·rw[QW (by omega),Zb];rw[show decide (a=b)=false from Zw (fun e=>h (by rw[e]))]
theorem Zfs (a b:List (List Int)) (h1:small a) (hab:a.length=b.length): ∀(k i:Nat),i≤a.length→a.length-i<k→
  n321_0 r322 k (b,((),(a,((a.length:Int),())))) () ((i:Int),())=if a.drop i=b.drop i then some (Sum.inl ((a.length:Int),()),())else some (Sum.inr (false,()),())
 |0,_,_,h=>absurd h (by omega)
 |k+1,i,hi,hk=>by
  unfold n321_0 w321_0;simp only[Zr];have:=h1.1;by_cases h:i<a.length
  ·have hb:i<b.length:=by omega
   rw[Zk (by omega),Zq (by omega),Zk (by omega),Qg .n a i h,Qg .n b i hb,Qx (by omega)];rw[show r322 (a[i],(b[i],()))=some ((decide (a[i]=b[i]),()),()) by
    unfold r322 m322;rw[Up _ _ (h1.2.1 _ (List.getElem_mem h))];rfl]
   simp only[Zb,Zo];rw[JL h,JL hb];by_cases hx:a[i]=b[i]
   ·rw[show (!decide (a[i]=b[i]))=false by simp[hx],Zd,Zfs a b h1 hab k (i+1) (by omega) (by omega)];simp only[List.cons.injEq,hx,true_and]
   ·rw[show (!decide (a[i]=b[i]))=true by simpa using hx,Zb];simp only[List.cons.injEq,hx,false_and,if_false]
  ·have:i=a.length:=by omega
   subst this;rw[Zx (by omega)];simp[hab]
theorem Znc (a b:List (List Int)) (h1:small a):r321 (a,(b,((),())))=some ((decide (a=b),()),()):=by
 unfold r321 m321 L321_0;simp only[Zr];have:=h1.1;by_cases h:a.length=b.length
 ·have:=Zfs a b h1 h fuel 0 (by omega) (by have:=Z6;omega);simp only[Int.natCast_zero,List.drop_zero]at this;rw[Q2 (by omega),Zd,this];by_cases e:a=b<;>simp[e,ZE]
 ·rw[QW (by omega),Zb];rw[show decide (a=b)=false from Zw (fun e=>h (by rw[e]))]
theorem Zfy (a b:Tup [.sl false .n, .sl false .i, .sl false .i]) (h1:small a.1) (hab:a.1.length≤b.1.length): ∀(k i:Nat),i≤a.1.length→a.1.length-i<k→
  n226_0 r277 r225 k () (a,(b,())) ((i:Int),())=if a.1.drop i=(b.1.drop i).take (a.1.length-i)then some (Sum.inl ((a.1.length:Int),()),(a,(b,())))else some (Sum.inr (false,()),(a,(b,())))
 |0,_,_,h=>absurd h (by omega)
 |k+1,i,hi,hk=>by
  unfold n226_0 w226_0;simp only[Zr];have:=h1.1;by_cases h:i<a.1.length
  ·have hb:i<b.1.length:=by omega
   rw[Zk (show (i:Int)< (a.1.length:Int) by omega),Zq (by omega),Zk (show (i:Int)< (b.1.length:Int) by omega),Qg .n a.1 i h,Qg .n b.1 i hb,Qx (by omega),Zel _ _ (h1.2.1 _ (List.getElem_mem h))];simp only[Zb,Zo];rw[JL h,JL hb,show a.1.length-i=(a.1.length-(i+1))+1 by omega,List.take_succ_cons];by_cases hx:a.1[i]=b.1[i]
   ·rw[show (!decide (a.1[i]=b.1[i]))=false by simp[hx],Zd,Zfy a b h1 hab k (i+1) (by omega) (by omega)];simp only[List.cons.injEq,hx,true_and]
   ·rw[show (!decide (a.1[i]=b.1[i]))=true by simpa using hx,Zb];simp only[List.cons.injEq,hx,false_and,if_false]
  ·have:i=a.1.length:=by omega
   subst this;rw[Zx (by omega)];simp
abbrev K8:List LT:=[.sl false .n, .sl false .i, .sl false .i]
def UD (a:Tup K8):Prop:=small a.1∧a.2.1.length≤4398046511104∧a.2.2.1.length≤4398046511104
def XZ (a b:Tup K8):Bool:=beg a.1 b.1&&(beg a.2.1 b.2.1&&beg a.2.2.1 b.2.2.1)
def V7 (a b:Tup K8):Bool:=decide (a.1=b.1)&&(decide (a.2.1=b.2.1)&&decide (a.2.2.1=b.2.2.1))
theorem ZbG (a b:Tup K8) (ha:UD a):r226 (a,(b,()))=some ((XZ a b,()),()):=by
 unfold r226 m226 L226_0;obtain ⟨h1,h2,h3⟩:=ha;simp only[Zr];have:=h1.1;by_cases h:b.1.length<a.1.length
 ·rw[Zk (by omega),Zb];have:beg a.1 b.1=false:=Zw (fun hh=>by omega);simp only[XZ,this,Bool.false_and]
 ·rw[Zx (by omega),Zd,Zfd _ _ h2];simp only[Zo,XZ];cases e1:beg a.2.1 b.2.1 with
  |false=>simp
  |true=>
   simp only[ZK,Zd];rw[Zfd _ _ h3];simp only[Zo];cases e2:beg a.2.2.1 b.2.2.1 with
   |false=>simp
   |true=>
    have:=Zfy a b h1 (by omega) fuel 0 (by omega) (by have:=Z6;omega);simp only[Int.natCast_zero,List.drop_zero,Nat.sub_zero]at this;simp only[ZK,Zd,this,Bool.and_true];by_cases e:a.1=b.1.take a.1.length
    ·rw[Ze e];simp only[Zo,ZE,beg];rw[ZC ⟨by omega,e⟩]
    ·rw[Zc e];simp only[Zo,ZE,beg];rw[Zw (fun hh=>e hh.2)]
theorem ZhT {α:Type} [DecidableEq α] (a b:List α):(beg a b&&beg b a)=decide (a=b):=by
 by_cases h:a.length=b.length
 ·rw[ZmT h,ZmT h.symm];by_cases e:a=b
  ·subst e;simp
  ·simp[e]
 ·rw[show decide (a=b)=false from Zw (fun e=>h (by rw[e]))];rcases Nat.lt_or_gt_of_ne h with h|h
  ·rw[show beg b a=false from Zw (fun hh=>by omega),Bool.and_false]
  ·rw[show beg a b=false from Zw (fun hh=>by omega),Bool.false_and]
theorem Zkj (a b:Tup K8):(XZ a b&&XZ b a)=V7 a b:=by
 unfold XZ V7;rw[←ZhT a.1 b.1,←ZhT a.2.1 b.2.1,←ZhT a.2.2.1 b.2.2.1];cases beg a.1 b.1<;>cases beg b.1 a.1<;>cases beg a.2.1 b.2.1<;>cases beg b.2.1 a.2.1<;>simp
theorem ZkB (a b:Tup K8) (ha:UD a) (hb:UD b):r279 (a,(b,()))=some ((V7 a b,()),()):=by
 unfold r279 m279;rw[ZbG a b ha];simp only[Zo];rw[←Zkj];cases e:XZ a b with
 |false=>simp
 |true=>rw[Zb,ZbG b a hb];simp
theorem ZfN (a b:Tup K8) (ha:UD a):r273 (a,(b,()))=some ((V7 a b,()),()):=by
 unfold r273 m273;obtain ⟨h1,h2,h3⟩:=ha;rw[Znc _ _ h1];simp only[Zo,V7];by_cases e1:a.1=b.1
 ·rw[ZC e1,Zb,Up _ _ h2];simp only[Zo];by_cases e2:a.2.1=b.2.1
  ·rw[ZC e2,Zb,Up _ _ h3];simp
  ·rw[Zw e2];simp
 ·rw[Zw e1];simp
theorem ZhU {α:Type} [DecidableEq α] (a b:List α) (h:a.length≤b.length):decide (a=b.take a.length)=beg a b:=by
 unfold beg;congr 1;rw[eq_iff_iff];exact ⟨fun e=>⟨h,e⟩,fun e=>e.2⟩
theorem Zia (a b:Tup K8) (ha:UD a):r211 (a,(b,()))=some ((XZ a b,()),()):=by
 unfold r211 m211;simp only[Zr,Int.toNat_natCast];by_cases h1:b.1.length<a.1.length
 ·rw[Zk (by omega),Zb];simp[XZ,show beg a.1 b.1=false from Zw (fun hh=>by omega)]
 rw[Zx (by omega),Zd];by_cases h2:b.2.1.length<a.2.1.length
 ·rw[Zk (by omega),Zb];simp[XZ,show beg a.2.1 b.2.1=false from Zw (fun hh=>by omega)]
 rw[Zx (by omega),Zd];by_cases h3:b.2.2.1.length<a.2.2.1.length
 ·rw[Zk (by omega),Zb];simp[XZ,show beg a.2.2.1 b.2.2.1=false from Zw (fun hh=>by omega)]
 rw[Zx (by omega),Zd,Zq (by omega),Zq (by omega),Zq (by omega)];simp only[Zb];rw[ZfN _ _ ha];simp only[Zo,V7,XZ];rw[ZhU _ _ (by omega),ZhU _ _ (by omega),ZhU _ _ (by omega)]
abbrev XX:List LT:=[.sl false .i, .int .i64]
abbrev Xi:List LT:=[.int .i64, .int .i64, .int .i64, .int .i64, .bool, .bool, .bool, .bool]
abbrev Yb:List LT:=[.int .i64, .int .i64, .int .i64, .int .i64, .int .i64, .bool, .sl false .i, .sl false .i]
abbrev KU:List LT:=[.int .i64, .int .i64, .int .i64, .int .i64, .int .i64, .bool, .bool]
abbrev UF:List LT:=[.bool, .int .i64]
abbrev Xn:List LT:= .sl false .n:: .sl false .i::(XX++(Xi++(Yb++(KU++(UF++(.bool:: .int .i64::K8))))))
def VC (a:Tup Yb):Prop:=a.2.2.2.2.2.2.1.length≤4398046511104∧a.2.2.2.2.2.2.2.1.length≤4398046511104
section
variable (a:Tup Xn)
abbrev Zr4:List (List Int):=a.1
abbrev Zrv:List Int:=a.2.1
abbrev JN:Tup XX:=(a.2.2.1,(a.2.2.2.1,()))
abbrev Kz:Tup Xi:=(a.2.2.2.2.1,(a.2.2.2.2.2.1,(a.2.2.2.2.2.2.1,(a.2.2.2.2.2.2.2.1,(a.2.2.2.2.2.2.2.2.1,(a.2.2.2.2.2.2.2.2.2.1,(a.2.2.2.2.2.2.2.2.2.2.1,(a.2.2.2.2.2.2.2.2.2.2.2.1,()))))))))
abbrev Y3:Tup Yb:=(a.2.2.2.2.2.2.2.2.2.2.2.2.1,(a.2.2.2.2.2.2.2.2.2.2.2.2.2.1,(a.2.2.2.2.2.2.2.2.2.2.2.2.2.2.1,(a.2.2.2.2.2.2.2.2.2.2.2.2.2.2.2.1,(a.2.2.2.2.2.2.2.2.2.2.2.2.2.2.2.2.1,(a.2.2.2.2.2.2.2.2.2.2.2.2.2.2.2.2.2.1,(a.2.2.2.2.2.2.2.2.2.2.2.2.2.2.2.2.2.2.1,(a.2.2.2.2.2.2.2.2.2.2.2.2.2.2.2.2.2.2.2.1,()))))))))
abbrev Uy:Tup KU:=(a.2.2.2.2.2.2.2.2.2.2.2.2.2.2.2.2.2.2.2.2.1,(a.2.2.2.2.2.2.2.2.2.2.2.2.2.2.2.2.2.2.2.2.2.1,(a.2.2.2.2.2.2.2.2.2.2.2.2.2.2.2.2.2.2.2.2.2.2.1,(a.2.2.2.2.2.2.2.2.2.2.2.2.2.2.2.2.2.2.2.2.2.2.2.1,(a.2.2.2.2.2.2.2.2.2.2.2.2.2.2.2.2.2.2.2.2.2.2.2.2.1,(a.2.2.2.2.2.2.2.2.2.2.2.2.2.2.2.2.2.2.2.2.2.2.2.2.2.1,(a.2.2.2.2.2.2.2.2.2.2.2.2.2.2.2.2.2.2.2.2.2.2.2.2.2.2.1,())))))))
abbrev Xw:Tup UF:=(a.2.2.2.2.2.2.2.2.2.2.2.2.2.2.2.2.2.2.2.2.2.2.2.2.2.2.2.1,(a.2.2.2.2.2.2.2.2.2.2.2.2.2.2.2.2.2.2.2.2.2.2.2.2.2.2.2.2.1,()))
abbrev J1:Tup K8:=a.2.2.2.2.2.2.2.2.2.2.2.2.2.2.2.2.2.2.2.2.2.2.2.2.2.2.2.2.2.2.2
end
def Wx (a b:Tup Xi):Bool:=eqI a.1 b.1&&(eqI a.2.1 b.2.1&&(eqI a.2.2.1 b.2.2.1&&(eqI a.2.2.2.1 b.2.2.2.1&&((a.2.2.2.2.1==b.2.2.2.2.1)&&((a.2.2.2.2.2.1==b.2.2.2.2.2.1)&&((a.2.2.2.2.2.2.1==b.2.2.2.2.2.2.1)&&((a.2.2.2.2.2.2.2.1==b.2.2.2.2.2.2.2.1)&&true)))))))
def Zp6 (a b:Tup KU):Bool:=eqI a.1 b.1&&(eqI a.2.1 b.2.1&&(eqI a.2.2.1 b.2.2.1&&(eqI a.2.2.2.1 b.2.2.2.1&&(eqI a.2.2.2.2.1 b.2.2.2.2.1&&((a.2.2.2.2.2.1==b.2.2.2.2.2.1)&&((a.2.2.2.2.2.2.1==b.2.2.2.2.2.2.1)&&true))))))
def Vy (a b:Tup UF):Bool:=(a.1==b.1)&&(eqI a.2.1 b.2.1&&true)
def Uz (a b:Tup XX):Bool:=eqI a.2.1 b.2.1&&decide (a.1=b.1)
def ZnR (a b:Tup Yb):Bool:=eqI a.1 b.1&&(eqI a.2.1 b.2.1&&(eqI a.2.2.1 b.2.2.1&&(eqI a.2.2.2.1 b.2.2.2.1&&(eqI a.2.2.2.2.1 b.2.2.2.2.1&&((a.2.2.2.2.2.1==b.2.2.2.2.2.1)&&(decide (a.2.2.2.2.2.2.1=b.2.2.2.2.2.2.1)&&decide (a.2.2.2.2.2.2.2.1=b.2.2.2.2.2.2.2.1)))))))
def YQ (a:Tup Xn):Prop:=small a.1∧a.2.1.length≤4398046511104∧a.2.2.1.length≤4398046511104∧VC (Y3 a)∧UD (J1 a)
theorem Zht (a b:Tup XX) (h:a.1.length≤4398046511104):r209 (a,(b,()))=some ((Uz a b,()),()):=by
 unfold r209 m209;rw[Up _ _ h];simp only[Zo,Q8];rfl
theorem Zmq (a b:Tup Yb) (h:VC a):r274 (a,(b,()))=some ((ZnR a b,()),()):=by
 unfold r274 m274;rw[Up _ _ h.1];rw[show r210 (a.2.2.2.2.2.2.2.1,b.2.2.2.2.2.2.2)=some ((decide (a.2.2.2.2.2.2.2.1=b.2.2.2.2.2.2.2.1),()),())from Up _ _ h.2];simp only[Zo,Q8];rfl
theorem Zmz (a b:Tup Yb) (h:VC a):r278 (a,(b,()))=some ((ZnR a b,()),()):=by
 unfold r278 m278;rw[Zel _ _ h.1];rw[show r225 (a.2.2.2.2.2.2.2.1,b.2.2.2.2.2.2.2)=some ((decide (a.2.2.2.2.2.2.2.1=b.2.2.2.2.2.2.2.1),()),())from Zel _ _ h.2];simp only[Zo,Q8];rfl
def Zla (a b:Tup Xn):Bool:=
 Wx (Kz a) (Kz b)&&(Zp6 (Uy a) (Uy b)&&(Vy (Xw a) (Xw b)&&((a.2.2.2.2.2.2.2.2.2.2.2.2.2.2.2.2.2.2.2.2.2.2.2.2.2.2.2.2.2.1==b.2.2.2.2.2.2.2.2.2.2.2.2.2.2.2.2.2.2.2.2.2.2.2.2.2.2.2.2.2.1)&&
  (eqI a.2.2.2.2.2.2.2.2.2.2.2.2.2.2.2.2.2.2.2.2.2.2.2.2.2.2.2.2.2.2.1 b.2.2.2.2.2.2.2.2.2.2.2.2.2.2.2.2.2.2.2.2.2.2.2.2.2.2.2.2.2.2.1&&(Uz (JN a) (JN b)&&(ZnR (Y3 a) (Y3 b)&&V7 (J1 a) (J1 b)))))))
theorem ZfI (a b:Tup Xn) (h:YQ a):r213 (a,(b,()))=some ((Zla a b,()),()):=by
 unfold r213 m213;obtain ⟨_,_,h3,h4,h5⟩:=h;simp only[Zht (JN a) (JN b) h3,Zmq (Y3 a) (Y3 b) h4,ZfN (J1 a) (J1 b) h5,Zo,Q8];rfl
def inR (lo hi n:Int):Bool:=leI lo n&&leI n hi
def YN (lo hi:Int) (l:List Int):Bool:=l.all (inR lo hi)
theorem JE {lo hi n:Int}:inR lo hi n=true↔lo≤n∧n≤hi:=by simp[inR,leI]
theorem XH (y:PTup i64):r64 y=some ((inR y.2.1 y.2.2.1 y.1,()),()):=by
 unfold r64 m64;simp only[Q8];rfl
theorem JV (y:PTup i41):r41 y=some ((inR y.2.1 y.2.2.1 y.1,()),()):=by
 unfold r41 m41;simp only[Q8];rfl
theorem WF (y:PTup i62):r62 y=some ((inR 0 255 y.1,()),()):=by
 unfold r62 m62;simp only[XH,Zo]
theorem Vs (y:PTup i93):r93 y=some ((inR 0 255 y.1,()),()):=by
 unfold r93 m93;simp only[JV,Zo]
theorem Zdl (y:PTup i63):r63 y=some ((inR 0 20000 y.1,()),()):=by
 unfold r63 m63;simp only[XH,Zo]
theorem Zci (l:List Int) (hl:l.length≤4611686018427387904):r113 (l,())=some ((YN 0 255 l,()),()):=by
 have key:=Kq (fun k i=>n113_0 r62 k (l,((l.length:Int),())) () ((i:Int),())) l (inR 0 255) (Sum.inl ((l.length:Int),()),()) (Sum.inr (false,()),())
  (fun k i h hq=>by
   simp only[n113_0,w113_0,Zr];rw[Zk (by omega),Zq (by omega),Qg .i l i h,WF,Qx (by omega)];simp only[Zb,Zo,hq,ZK,Zd])
  (fun k i h hq=>by
   simp only[n113_0,w113_0,Zr];rw[Zk (by omega),Zq (by omega),Qg .i l i h,WF];simp only[Zb,Zo,hq,QF])
  (fun k=>by
   simp only[n113_0,w113_0,Zr];rw[Zx (by omega)];rfl) fuel 0 (by omega) (by have:=Z6;omega)
 unfold r113 m113 L113_0;simp only[Zr];simp only[Int.natCast_zero,List.drop_zero]at key;rw[key];unfold YN;cases l.all (inR 0 255)<;>rfl
theorem Zfk (l:List Int) (hl:l.length≤4611686018427387904):r180 (l,())=some ((YN 0 63 l,()),()):=by
 have key:=Kq (fun k i=>n180_0 r64 k (l,((l.length:Int),())) () ((i:Int),())) l (inR 0 63) (Sum.inl ((l.length:Int),()),()) (Sum.inr (false,()),())
  (fun k i h hq=>by
   simp only[n180_0,w180_0,Zr];rw[Zk (by omega),Zq (by omega),Qg .i l i h,XH,Qx (by omega)];simp only[Zb,Zo,hq,ZK,Zd])
  (fun k i h hq=>by
   simp only[n180_0,w180_0,Zr];rw[Zk (by omega),Zq (by omega),Qg .i l i h,XH];simp only[Zb,Zo,hq,QF])
  (fun k=>by
   simp only[n180_0,w180_0,Zr];rw[Zx (by omega)];rfl) fuel 0 (by omega) (by have:=Z6;omega)
 unfold r180 m180 L180_0;simp only[Zr];simp only[Int.natCast_zero,List.drop_zero]at key;rw[key];unfold YN;cases l.all (inR 0 63)<;>rfl
def XC (l:List Int):Bool:=leI (l.length:Int) 20&&YN 0 255 l
theorem Zbv (l:List Int) (hl:l.length≤4611686018427387904):r58 (l,())=some ((XC l,()),()):=by
 unfold r58 m58;simp only[Zci l hl,Zo,Zr,Q8];rfl
theorem ZbJ (l:List Int) (hl:l.length≤4611686018427387904):r88 (l,())=some ((XC l,()),()):=by
 have key:=Kq (fun k i=>n88_0 r93 k (l,()) () ((i:Int),())) l (inR 0 255) (Sum.inl ((l.length:Int),()),()) (Sum.inr (false,()),())
  (fun k i h hq=>by
   simp only[n88_0,w88_0,Zr];rw[Zk (by omega),Zq (by omega),Qg .i l i h,Vs,Qx (by omega)];simp only[Zb,Zo,hq,ZK,Zd])
  (fun k i h hq=>by
   simp only[n88_0,w88_0,Zr];rw[Zk (by omega),Zq (by omega),Qg .i l i h,Vs];simp only[Zb,Zo,hq,QF])
  (fun k=>by
   simp only[n88_0,w88_0,Zr];rw[Zx (by omega)];rfl) fuel 0 (by omega) (by have:=Z6;omega)
 unfold r88 m88 L88_0;simp only[Zr];simp only[Int.natCast_zero,List.drop_zero]at key;rw[key];unfold XC YN;cases l.all (inR 0 255)<;>simp[ZE]
def KW (l:List Int):Bool:=eqI (l.length:Int) 256&&YN 0 255 l
def V1 (f:List (List Int)):Bool:=f.all KW&&inR 1 8 (f.length:Int)
theorem ZgQ (f:List (List Int)) (hf:small f):r112 ((f,()),())=some ((V1 f,()),()):=by
 have h0:=hf.1;have key:=Kq (fun k i=>n112_0 r113 r64 k (f,((f.length:Int),())) () ((i:Int),())) f KW (Sum.inl ((f.length:Int),()),()) (Sum.inr (false,()),())
  (fun k i h hq=>by
   have hl:=hf.2.1 _ (List.getElem_mem h);simp only[KW,Bool.and_eq_true]at hq;simp only[n112_0,w112_0,Zr];rw[Zk (by omega),Zq (by omega),Qg .n f i h,Zci _ (by omega),Qx (by omega)];have h1:(f[i].length:Int)=256:=by simpa [Qn] using hq.1
   rw[Q2 h1];simp only[Zb,Zo,hq.2,ZK,Zd])
  (fun k i h hq=>by
   have hl:=hf.2.1 _ (List.getElem_mem h);simp only[n112_0,w112_0,Zr];rw[Zk (by omega),Zq (by omega),Qg .n f i h,Zci _ (by omega)];by_cases h1:(f[i].length:Int)=256
   ·rw[Q2 h1];simp only[KW,Zn h1,Bool.true_and]at hq;simp only[Zb,Zo,hq,QF,Zd]
   ·rw[QW h1];simp only[Zb])
  (fun k=>by
   simp only[n112_0,w112_0,Zr];rw[Zx (by omega)];rfl) fuel 0 (by omega) (by have:=Z6;omega)
 unfold r112 m112 L112_0;simp only[Zr];simp only[Int.natCast_zero,List.drop_zero]at key;rw[key];unfold V1;cases f.all KW<;>simp[ZE,XH]
theorem ZdH (f:List (List Int)) (i:Nat) (h:i<f.length) (hl:(f[i].length:Int)=256):
  L148_0 ((i:Int),()) ((f,()),()) ((0:Int),())=some (if f[i].all (inR 0 255)then (Sum.inl ((256:Int),()),((f,()),()))else (Sum.inr (false,()),((f,()),()))):=by
 have key:=Kq (fun k j=>n148_0 r41 k ((i:Int),()) ((f,()),()) ((j:Int),())) f[i] (inR 0 255) (Sum.inl ((256:Int),()),((f,()),())) (Sum.inr (false,()),((f,()),()))
  (fun k j hj hq=>by
   simp only[n148_0,w148_0,Zr];rw[Qg .n f i h,Zk (show (j:Int)<256 by omega),Zq (show (0:Int)≤(i:Int) by omega),Zk (show (i:Int)< (f.length:Int) by omega),Zq (show (0:Int)≤(j:Int) by omega),Zk (by omega),Qx (by omega),
    show rdI f[i] (j:Int)=f[i][j] by simp[rdI,List.getD,hj],JV]
   simp only[Zb,Zo,hq,ZK,Zd])
  (fun k j hj hq=>by
   simp only[n148_0,w148_0,Zr];rw[Qg .n f i h,Zk (show (j:Int)<256 by omega),Zq (show (0:Int)≤(i:Int) by omega),Zk (show (i:Int)< (f.length:Int) by omega),Zq (show (0:Int)≤(j:Int) by omega),Zk (by omega),
    show rdI f[i] (j:Int)=f[i][j] by simp[rdI,List.getD,hj],JV]
   simp only[Zb,Zo,hq,QF])
  (fun k=>by
   simp only[n148_0,w148_0,Zr];rw[Zx (by omega)];simp only[Zd,hl]) fuel 0 (by omega) (by have:=Z6;omega)
 exact key
theorem ZgZ (f:List (List Int)) (hf:small f):r148 ((f,()),())=some ((V1 f,()),()):=by
 have h0:=hf.1;have key:=Kq (fun k i=>n148_1 r41 L148_0 k () ((f,()),()) ((i:Int),())) f KW (Sum.inl ((f.length:Int),()),((f,()),())) (Sum.inr (false,()),((f,()),()))
  (fun k i h hq=>by
   simp only[KW,Bool.and_eq_true,YN]at hq;have h1:(f[i].length:Int)=256:=by simpa [Qn] using hq.1
   simp only[n148_1,w148_1,Zr];rw[Zk (by omega),Zq (by omega),Qg .n f i h,Qx (by omega),Q2 h1,ZdH f i h h1,hq.2];simp only[Zb,Zd,Zo,if_true,ZE])
  (fun k i h hq=>by
   simp only[n148_1,w148_1,Zr];rw[Zk (by omega),Zq (by omega),Qg .n f i h];by_cases h1:(f[i].length:Int)=256
   ·rw[Q2 h1,ZdH f i h h1];simp only[KW,Zn h1,Bool.true_and,YN]at hq;rw[hq];simp only[Zb,Zd,Zo,ZE,Bool.false_eq_true,if_false]
   ·rw[QW h1];simp only[Zb])
  (fun k=>by
   simp only[n148_1,w148_1,Zr];rw[Zx (by omega)];rfl) fuel 0 (by omega) (by have:=Z6;omega)
 unfold r148 m148 L148_1;simp only[Zr];simp only[Int.natCast_zero,List.drop_zero]at key;rw[key];unfold V1;cases f.all KW<;>simp[ZE,JV]
def Y4 (f:List (List Int)) (x:Tup XX):Bool:=V1 f&&(eqI (x.1.length:Int) 512&&(YN 0 255 x.1&&inR 0 ((f.length:Int)-1) x.2.1))
theorem ZaV (f:List (List Int)) (x:Tup XX) (hf:small f) (hx:x.1.length≤4398046511104):r57 ((f,()),(x,()))=some ((Y4 f x,()),()):=by
 unfold r57 m57;have:=hf.1;simp only[ZgQ f hf,Zci x.1 (by omega),XH,Zo,Zr,Q8];rw[Zt (by omega) (by omega)];rfl
theorem Za4 (f:List (List Int)) (x:Tup XX) (hf:small f) (hx:x.1.length≤4398046511104):r89 ((f,()),(x,()))=some ((Y4 f x,()),()):=by
 unfold r89 m89;have:=hf.1;simp only[ZgZ f hf,JV,Zo,Zr];rw[Zt (by omega) (by omega)];unfold Y4;cases V1 f with
 |false=>rfl
 |true=>
  simp only[ZK,Zd,Bool.true_and];by_cases h1:(x.1.length:Int)=512
  ·rw[Q2 h1,Zn h1];simp only[Zd,Bool.true_and];cases h2:inR 0 ((f.length:Int)-1) x.2.1 with
   |false=>simp
   |true=>
    have key:=Kq (fun k i=>n89_0 r148 r41 r93 k () (x,()) ((i:Int),())) x.1 (inR 0 255) (Sum.inl ((512:Int),()),(x,())) (Sum.inr (false,()),(x,()))
     (fun k i h hq=>by
      simp only[n89_0,w89_0,Zr];rw[Zk (show (i:Int)<512 by omega),Zq (by omega),Zk (by omega),Qg .i x.1 i h,Vs,Qx (by omega)];simp only[Zb,Zo,hq,ZK,Zd])
     (fun k i h hq=>by
      simp only[n89_0,w89_0,Zr];rw[Zk (show (i:Int)<512 by omega),Zq (by omega),Zk (by omega),Qg .i x.1 i h,Vs];simp only[Zb,Zo,hq,QF])
     (fun k=>by
      simp only[n89_0,w89_0,Zr];rw[Zx (by omega)];simp only[Zd,h1]) fuel 0 (by omega) (by have:=Z6;omega)
    unfold L89_0;simp only[Int.natCast_zero,List.drop_zero]at key;simp only[ZK,Zd];rw[key];unfold YN;cases x.1.all (inR 0 255)<;>simp[ZE]
  ·rw[QW h1,Zi h1];rfl
def Yp (c:Tup Xi):Bool:=inR 0 255 c.1&&(inR 0 255 c.2.1&&(inR 0 255 c.2.2.1&&inR 0 65535 c.2.2.2.1))
theorem ZbY (c:Tup Xi):r59 (c,())=some ((Yp c,()),()):=by
 unfold r59 m59;simp only[WF,XH,Zo,Q8];rfl
theorem Zb8 (c:Tup Xi):r90 (c,())=some ((Yp c,()),()):=by
 unfold r90 m90;simp only[Vs,JV,Zo,Q8];rfl
def Xd (a:Tup KU):Bool:=inR 0 20000 a.1&&(inR 0 255 a.2.1&&(inR 0 255 a.2.2.1&&(inR 0 1 a.2.2.2.1&&inR 0 31 a.2.2.2.2.1)))
theorem ZaU (a:Tup KU):r117 (a,())=some ((Xd a,()),()):=by
 unfold r117 m117;simp only[Zdl,WF,XH,Zo,Q8];rfl
theorem Za3 (a:Tup KU):r152 (a,())=some ((Xd a,()),()):=by
 unfold r152 m152;simp only[Vs,JV,Zo,Q8];rfl
def Wz (t:Int):Int:=if 48<Int.tmod t 64 then 0 else Int.tmod t 64
def Zjr (p:Tup Yb):Bool:=inR 0 20000 p.1&&(inR 0 255 p.2.1&&(inR 0 255 p.2.2.1&&(inR 0 15 p.2.2.2.1&&inR 0 63 p.2.2.2.2.1)))
def Zga (p:Tup Yb):Bool:=eqI (p.2.2.2.2.2.2.1.length:Int) 16&&(YN 0 63 p.2.2.2.2.2.2.1&&(eqI (p.2.2.2.2.2.2.2.1.length:Int) (Wz p.1)&&YN 0 63 p.2.2.2.2.2.2.2.1))
def YS (p:Tup Yb):Bool:=Zjr p&&Zga p
theorem ZeF (p:Tup Yb) (h:VC p):r114 (p,())=some ((YS p,()),()):=by
 unfold r114 m114;obtain ⟨h1,h2⟩:=h;have hd:r180 p.2.2.2.2.2.2.2=some ((YN 0 63 p.2.2.2.2.2.2.2.1,()),()):=Zfk p.2.2.2.2.2.2.2.1 (by omega);simp only[Zdl,WF,XH,Zfk p.2.2.2.2.2.2.1 (by omega),hd,Zr,Zo];unfold YS Zjr Zga Wz;by_cases h48:48<Int.tmod p.1 64
 ·rw[Zk h48,Ze h48];simp only[Zb,Q8,Uk,Bool.and_assoc]
 ·rw[Zx h48,Zc h48];simp only[Zd,Q8,Uk,Bool.and_assoc]
theorem ZjH (p:Tup Yb) (h16:(p.2.2.2.2.2.2.1.length:Int)=16):
  L149_1 () (p,()) ((0:Int),())=some (if p.2.2.2.2.2.2.1.all (inR 0 63)then (Sum.inl ((16:Int),()),(p,()))else (Sum.inr (false,()),(p,()))):=by
 have key:=Kq (fun k i=>n149_1 r41 r93 r218 L149_0 k () (p,()) ((i:Int),())) p.2.2.2.2.2.2.1 (inR 0 63) (Sum.inl ((16:Int),()),(p,())) (Sum.inr (false,()),(p,()))
  (fun k i h hq=>by
   simp only[n149_1,w149_1,Zr];rw[Zk (show (i:Int)<16 by omega),Zq (by omega),Zk (by omega),Qg .i p.2.2.2.2.2.2.1 i h,JV,Qx (by omega)];simp only[Zb,Zo,hq,ZK,Zd])
  (fun k i h hq=>by
   simp only[n149_1,w149_1,Zr];rw[Zk (show (i:Int)<16 by omega),Zq (by omega),Zk (by omega),Qg .i p.2.2.2.2.2.2.1 i h,JV];simp only[Zb,Zo,hq,QF])
  (fun k=>by
   simp only[n149_1,w149_1,Zr];rw[Zx (by omega)];simp only[Zd,h16]) fuel 0 (by omega) (by have:=Z6;omega)
 exact key
theorem Zkz (p:Tup Yb) (hl:p.2.2.2.2.2.2.2.1.length≤4398046511104):
  L149_0 () (p,()) ((0:Int),())=some (if p.2.2.2.2.2.2.2.1.all (inR 0 63)then (Sum.inl ((p.2.2.2.2.2.2.2.1.length:Int),()),(p,()))else (Sum.inr (false,()),(p,()))):=by
 have key:=Kq (fun k i=>n149_0 r41 r93 r218 k () (p,()) ((i:Int),())) p.2.2.2.2.2.2.2.1 (inR 0 63) (Sum.inl ((p.2.2.2.2.2.2.2.1.length:Int),()),(p,())) (Sum.inr (false,()),(p,()))
  (fun k i h hq=>by
   simp only[n149_0,w149_0,Zr];rw[Zk (show (i:Int)<_ by omega),Zq (by omega),Qg .i p.2.2.2.2.2.2.2.1 i h,JV,Qx (by omega)];simp only[Zb,Zo,hq,ZK,Zd])
  (fun k i h hq=>by
   simp only[n149_0,w149_0,Zr];rw[Zk (show (i:Int)<_ by omega),Zq (by omega),Qg .i p.2.2.2.2.2.2.2.1 i h,JV];simp only[Zb,Zo,hq,QF])
  (fun k=>by
   simp only[n149_0,w149_0,Zr];rw[Zx (by omega)];rfl) fuel 0 (by omega) (by have:=Z6;omega)
 exact key
theorem Za6 (p:Tup Yb) (h:VC p):r149 (p,())=some ((YS p,()),()):=by
 unfold r149 m149;obtain ⟨h1,h2⟩:=h;have hd:r218 (p.1,())=some ((Wz p.1,()),()):=by
  unfold r218 m218 Wz;by_cases h48:48<Int.tmod p.1 64
  ·simp only[Zk h48,Zb,h48,if_true]
  ·simp only[Zx h48,Zd,h48,if_false]
 have hrest:(bif neI (p.2.2.2.2.2.2.1.length:Int) 16 then some ((false,()),())else
   bif neI (p.2.2.2.2.2.2.2.1.length:Int) (Wz p.1)then some ((false,()),())
   else (L149_1 () (p,()) ((0:Int),())).bind fun r6=>ZE r6.1 (fun r7=>(L149_0 () ((r6.2.1.1,(r6.2.1.2.1,(r6.2.1.2.2.1,(r6.2.1.2.2.2.1,(r6.2.1.2.2.2.2.1,(r6.2.1.2.2.2.2.2.1,p.2.2.2.2.2.2)))))),()) ((0:Int),())).bind fun r8=>
    ZE r8.1 (fun r9=>some ((true,()),())) (fun r9=>some (r9,()))) (fun r7=>some (r7,())))=some ((Zga p,()),()):=by
  unfold Zga;by_cases h16:(p.2.2.2.2.2.2.1.length:Int)=16
  ·rw[Q2 h16,Zn h16,Zd];by_cases hdn:(p.2.2.2.2.2.2.2.1.length:Int)=Wz p.1
   ·rw[Q2 hdn,Zn hdn,Zd,ZjH p h16];unfold YN;cases p.2.2.2.2.2.2.1.all (inR 0 63)with
    |false=>rfl
    |true=>
     simp only[if_true,Zo,ZE];rw[show ((p.1,(p.2.1,(p.2.2.1,(p.2.2.2.1,(p.2.2.2.2.1,(p.2.2.2.2.2.1,p.2.2.2.2.2.2)))))):Tup Yb)=p from rfl,Zkz p h2];cases p.2.2.2.2.2.2.2.1.all (inR 0 63)<;>rfl
   ·rw[QW hdn,Zi hdn,Zb];simp
  ·rw[QW h16,Zi h16,Zb];rfl
 simp only[JV,Vs,hd,Zr,Zo];rw[hrest];simp only[Uk];unfold YS Zjr;simp only[Bool.and_assoc]
abbrev Yh:List LT:=[.int .i64, .sl false .t]
def Vb (l:List (Int×Int×Int)) (i:Nat):Bool:=inR 0 20000 (rdE .t l (i:Int)).1&&(inR 0 7 (rdE .t l (i:Int)).2.1&&(inR 0 255 (rdE .t l (i:Int)).2.2&&(decide (i=0)|| !ltI (rdE .t l (i:Int)).1 (rdE .t l ((i-1:Nat):Int)).1)))
def XD (r:Tup Yh):Bool:=(List.range' 0 r.2.1.length).all (Vb r.2.1)&&(inR 1 16 r.1&&leI (r.2.1.length:Int) r.1)
theorem ZiA {i:Nat} (h:i≠0) (h2:i<9223372036854775807):wI ((i:Int)-1)=((i-1:Nat):Int):=by
 rw[Zt (by omega) (by omega)];omega
theorem ZcF (r:Tup Yh) (hl:r.2.1.length≤4398046511104) (k i:Nat) (h:i<r.2.1.length):
  n110_0 r62 r63 r64 (k+1) (r.2.1,((r.2.1.length:Int),())) (r,()) ((i:Int),())=
   bif Vb r.2.1 i then n110_0 r62 r63 r64 k (r.2.1,((r.2.1.length:Int),())) (r,()) (((i+1:Nat):Int),())else some (Sum.inr (false,()),(r,())):=by
 simp only[n110_0,w110_0,Zr];rw[Zk (show (i:Int)<_ by omega),Zq (show (0:Int)≤(i:Int) by omega),Qx (by omega)];simp only[Zb,Zdl,XH,WF,Zo];unfold Vb;generalize inR 0 20000 (rdE .t r.2.1 (i:Int)).1=x1;generalize inR 0 7 (rdE .t r.2.1 (i:Int)).2.1=x2;generalize inR 0 255 (rdE .t r.2.1 (i:Int)).2.2=x3;by_cases h0:i=0
 ·subst h0;rw[Zx (by omega)];cases x1<;>cases x2<;>cases x3<;>rfl
 ·rw[Zk (by omega),ZiA h0 (by omega),Zq (by omega),Zk (by omega),Zw h0];generalize ltI (rdE .t r.2.1 (i:Int)).1 (rdE .t r.2.1 ((i-1:Nat):Int)).1=x4;cases x1<;>cases x2<;>cases x3<;>cases x4<;>rfl
theorem Zdj (r:Tup Yh) (hl:r.2.1.length≤4398046511104):r110 (r,())=some ((XD r,()),()):=by
 have key:=ZbU (fun k i=>n110_0 r62 r63 r64 k (r.2.1,((r.2.1.length:Int),())) (r,()) ((i:Int),())) r.2.1.length (Vb r.2.1) (Sum.inl ((r.2.1.length:Int),()),(r,())) (Sum.inr (false,()),(r,()))
  (fun k i h hq=>by simp only[ZcF r hl k i h,hq,Zb])
  (fun k i h hq=>by simp only[ZcF r hl k i h,hq,Zd])
  (fun k=>by
   simp only[n110_0,w110_0,Zr];rw[Zx (by omega)];rfl) fuel 0 (by omega) (by have:=Z6;omega)
 unfold r110 m110 L110_0;simp only[Zr];simp only[Int.natCast_zero,Nat.sub_zero]at key;rw[key];unfold XD;cases (List.range' 0 r.2.1.length).all (Vb r.2.1)with
 |false=>rfl
 |true=>simp only[if_true,Zo,ZE,XH,Q8,Bool.true_and]
theorem ZcM (r:Tup Yh) (hl:r.2.1.length≤4398046511104) (k i:Nat) (h:i<r.2.1.length):
  n150_0 r41 r93 (k+1) () (r,()) ((i:Int),())=
   bif Vb r.2.1 i then n150_0 r41 r93 k () (r,()) (((i+1:Nat):Int),())else some (Sum.inr (false,()),(r,())):=by
 simp only[n150_0,w150_0,Zr];rw[Zk (show (i:Int)<_ by omega),Zq (show (0:Int)≤(i:Int) by omega),Qx (by omega)];simp only[Zb,JV,Vs,Zo];unfold Vb;generalize inR 0 20000 (rdE .t r.2.1 (i:Int)).1=x1;generalize inR 0 7 (rdE .t r.2.1 (i:Int)).2.1=x2;generalize inR 0 255 (rdE .t r.2.1 (i:Int)).2.2=x3;by_cases h0:i=0
 ·subst h0;rw[Zx (by omega)];cases x1<;>cases x2<;>cases x3<;>rfl
 ·rw[Zk (by omega),ZiA h0 (by omega),Zq (by omega),Zk (by omega),Zw h0];generalize ltI (rdE .t r.2.1 (i:Int)).1 (rdE .t r.2.1 ((i-1:Nat):Int)).1=x4;cases x1<;>cases x2<;>cases x3<;>cases x4<;>rfl
theorem ZdK (r:Tup Yh) (hl:r.2.1.length≤4398046511104):r150 (r,())=some ((XD r,()),()):=by
 have key:=ZbU (fun k i=>n150_0 r41 r93 k () (r,()) ((i:Int),())) r.2.1.length (Vb r.2.1) (Sum.inl ((r.2.1.length:Int),()),(r,())) (Sum.inr (false,()),(r,()))
  (fun k i h hq=>by simp only[ZcM r hl k i h,hq,Zb])
  (fun k i h hq=>by simp only[ZcM r hl k i h,hq,Zd])
  (fun k=>by
   simp only[n150_0,w150_0,Zr];rw[Zx (by omega)];rfl) fuel 0 (by omega) (by have:=Z6;omega)
 unfold r150 m150 L150_0;simp only[Zr];simp only[Int.natCast_zero,Nat.sub_zero]at key;rw[key];unfold XD;cases (List.range' 0 r.2.1.length).all (Vb r.2.1)with
 |false=>rfl
 |true=>simp only[if_true,Zo,ZE,JV,Q8,Bool.true_and]
def WV (r:Tup Yh) (t:Int):Bool:=if r.2.1.length=0 then true else leI t (rdE .t r.2.1 (0:Int)).1
theorem Zgg (r:Tup Yh) (t:Int) (hl:r.2.1.length≤4398046511104):r115 (r,(t,()))=some ((XD r&&WV r t,()),()):=by
 unfold r115 m115;simp only[Zdj r hl,Zo,Zr];unfold WV;cases XD r with
 |false=>rfl
 |true=>
  by_cases h:r.2.1.length=0
  ·rw[Zn (by omega),Ze h];rfl
  ·rw[Zi (by omega),Zc h,Zk (by omega)];rfl
def XS (f:List (List Int)) (t:Int):Bool:=f.all (fun l=>eqI (l.length:Int) 48)&&eqI (f.length:Int) (Int.tdiv (t+15) 64)
theorem Zix {t c d:Int} (h0:0≤t) (h1:t≤20000) (hc:0≤c) (hc2:c≤64) (hd:d=64∨d=16):wI (Int.tdiv (t+c) d)=Int.tdiv (t+c) d:=by
 rw[Int.tdiv_eq_ediv_of_nonneg (by omega)];rcases hd with rfl|rfl<;>exact Zt (by omega) (by omega)
theorem ZbZ (f:List (List Int)) (t:Int) (hf:f.length≤4398046511104) (h0:0≤t) (h1:t≤20000):r116 (f,(t,()))=some ((XS f t,()),()):=by
 have key:=Kq (fun k i=>n116_0 r181 k (f,((f.length:Int),())) () ((i:Int),())) f (fun l=>eqI (l.length:Int) 48) (Sum.inl ((f.length:Int),()),()) (Sum.inr (false,()),())
  (fun k i h hq=>by
   simp only[n116_0,w116_0,Zr];rw[Zk (by omega),Zq (by omega),Qg .n f i h,Qx (by omega)];have:(f[i].length:Int)=48:=by simpa [Qn] using hq
   rw[Q2 this];simp only[Zb,Zd])
  (fun k i h hq=>by
   simp only[n116_0,w116_0,Zr];rw[Zk (by omega),Zq (by omega),Qg .n f i h];have: ¬(f[i].length:Int)=48:=by simpa [Qn] using hq
   rw[QW this];simp only[Zb])
  (fun k=>by
   simp only[n116_0,w116_0,Zr];rw[Zx (by omega)];rfl) fuel 0 (by omega) (by have:=Z6;omega)
 unfold r116 m116 L116_0;simp only[Zr];simp only[Int.natCast_zero,List.drop_zero]at key;rw[key];unfold XS;cases f.all (fun l=>eqI (l.length:Int) 48)with
 |false=>rfl
 |true=>
  have hc:r181 (t,((48:Int),((64:Int),())))=some ((Int.tdiv (t+15) 64,()),()):=by
   unfold r181 m181;simp only;rw[QW (by omega),Zt (x:=t+64) (by omega) (by omega),Zt (x:=t+64-1) (by omega) (by omega),Zt (x:=t+64-1-48) (by omega) (by omega),show t+64-1-48=t+15 by omega,Zix h0 h1 (by omega) (by omega) (.inl rfl)];rfl
  simp only[if_true,Zo,ZE,hc,Bool.true_and]
theorem Zb9 (f:List (List Int)) (t:Int) (hf:f.length≤4398046511104) (h0:0≤t) (h1:t≤20000):r151 (f,(t,()))=some ((XS f t,()),()):=by
 have key:=Kq (fun k i=>n151_0 r219 k (f,()) () ((i:Int),())) f (fun l=>eqI (l.length:Int) 48) (Sum.inl ((f.length:Int),()),()) (Sum.inr (false,()),())
  (fun k i h hq=>by
   simp only[n151_0,w151_0,Zr];rw[Zk (by omega),Zq (by omega),Qg .n f i h,Qx (by omega)];have:(f[i].length:Int)=48:=by simpa [Qn] using hq
   rw[Q2 this];simp only[Zb,Zd])
  (fun k i h hq=>by
   simp only[n151_0,w151_0,Zr];rw[Zk (by omega),Zq (by omega),Qg .n f i h];have: ¬(f[i].length:Int)=48:=by simpa [Qn] using hq
   rw[QW this];simp only[Zb])
  (fun k=>by
   simp only[n151_0,w151_0,Zr];rw[Zx (by omega)];rfl) fuel 0 (by omega) (by have:=Z6;omega)
 unfold r151 m151 L151_0;simp only[Zr];simp only[Int.natCast_zero,List.drop_zero]at key;rw[key];unfold XS;cases f.all (fun l=>eqI (l.length:Int) 48)with
 |false=>rfl
 |true=>
  have hc:r219 (t,())=some ((Int.tdiv (t+15) 64,()),()):=by
   unfold r219 m219;simp only;rw[Zt (x:=t+64) (by omega) (by omega),Zt (x:=t+64-48) (by omega) (by omega),Zt (x:=t+64-48-1) (by omega) (by omega),show t+64-48-1=t+15 by omega,Zix h0 h1 (by omega) (by omega) (.inl rfl)]
  simp only[if_true,Zo,ZE,hc,Bool.true_and]
def WX (s:List Int) (t:Int):Bool:=eqI (s.length:Int) (Int.tdiv t 16)
theorem ZbQ (s:List Int) (t:Int) (h0:0≤t) (h1:t≤20000):r118 (s,(t,()))=some ((WX s t,()),()):=by
 unfold r118 m118 r181 m181;simp only;rw[QW (by omega),Zt (x:=t+16) (by omega) (by omega),Zt (x:=t+16-1) (by omega) (by omega),Zt (x:=t+16-1-15) (by omega) (by omega),show t+16-1-15=t+0 by omega,Zix h0 h1 (by omega) (by omega) (.inr rfl),Int.add_zero];rfl
abbrev VA:List LT:=Yb++(Yh++[.sl false .n])
abbrev VJ:List LT:=KU++(Yh++[.sl false .i])
abbrev WP (w:Tup VA):Tup Yb:=(w.1,(w.2.1,(w.2.2.1,(w.2.2.2.1,(w.2.2.2.2.1,(w.2.2.2.2.2.1,(w.2.2.2.2.2.2.1,(w.2.2.2.2.2.2.2.1,()))))))))
abbrev Kb (w:Tup VA):Tup Yh:=(w.2.2.2.2.2.2.2.2.1,(w.2.2.2.2.2.2.2.2.2.1,()))
abbrev Zn7 (w:Tup VJ):Tup KU:=(w.1,(w.2.1,(w.2.2.1,(w.2.2.2.1,(w.2.2.2.2.1,(w.2.2.2.2.2.1,(w.2.2.2.2.2.2.1,())))))))
abbrev Kf (w:Tup VJ):Tup Yh:=(w.2.2.2.2.2.2.2.1,(w.2.2.2.2.2.2.2.2.1,()))
def Zjm (w:Tup VA):Prop:=VC (WP w)∧(Kb w).2.1.length≤4398046511104∧small w.2.2.2.2.2.2.2.2.2.2.1
def ZjB (w:Tup VJ):Prop:=(Kf w).2.1.length≤4398046511104∧w.2.2.2.2.2.2.2.2.2.1.length≤4398046511104
def VB (w:Tup VA):Bool:=YS (WP w)&&(XD (Kb w)&&(WV (Kb w) w.1&&XS w.2.2.2.2.2.2.2.2.2.2.1 w.1))
def VK (w:Tup VJ):Bool:=Xd (Zn7 w)&&(XD (Kf w)&&(WV (Kf w) w.1&&WX w.2.2.2.2.2.2.2.2.2.1 w.1))
theorem ZnS {p:Tup Yb} (h:YS p=true):0≤p.1∧p.1≤20000:=by
 simp only[YS,Zjr,Bool.and_eq_true]at h;exact JE.1 h.1.1
theorem ZmJ {p:Tup KU} (h:Xd p=true):0≤p.1∧p.1≤20000:=by
 simp only[Xd,Bool.and_eq_true]at h;exact JE.1 h.1
theorem ZeQ (w:Tup VA) (h:Zjm w):r60 (w,())=some ((VB w,()),()):=by
 unfold r60 m60 VB;obtain ⟨h1,h2,h3⟩:=h;simp only[ZeF (WP w) h1,Zgg (Kb w) w.1 h2,Zo];cases e:YS (WP w)with
 |false=>rfl
 |true=>
  obtain ⟨t0,t1⟩:=ZnS e;simp only[ZbZ w.2.2.2.2.2.2.2.2.2.2.1 w.1 h3.1 t0 t1,Zo,Zb,Q8,Bool.and_assoc,Bool.true_and]
theorem ZbT (w:Tup VA) (h:Zjm w):r91 (w,())=some ((VB w,()),()):=by
 unfold r91 m91 VB;obtain ⟨h1,h2,h3⟩:=h;simp only[Za6 (WP w) h1,ZdK (Kb w) h2,Zo,Zr];cases e:YS (WP w)with
 |false=>rfl
 |true=>
  obtain ⟨t0,t1⟩:=ZnS e;simp only[Zb9 w.2.2.2.2.2.2.2.2.2.2.1 w.1 h3.1 t0 t1,Zo,ZK,Zd,Bool.true_and];unfold WV;cases XD (Kb w)with
  |false=>rfl
  |true=>
   by_cases hz:(Kb w).2.1.length=0
   ·rw[Zn (by have:w.2.2.2.2.2.2.2.2.2.1.length=0:=hz;omega),Ze hz];simp
   ·rw[Zi (by have: ¬w.2.2.2.2.2.2.2.2.2.1.length=0:=hz;omega),Zc hz,Zk (by have: ¬w.2.2.2.2.2.2.2.2.2.1.length=0:=hz;omega)];simp only[Q8,ZK,Zd,Zb,Bool.true_and]
theorem ZgT (w:Tup VJ) (h:ZjB w):r61 (w,())=some ((VK w,()),()):=by
 unfold r61 m61 VK;obtain ⟨h1,h2⟩:=h;simp only[ZaU (Zn7 w),Zgg (Kf w) w.1 h1,Zo];cases e:Xd (Zn7 w)with
 |false=>rfl
 |true=>
  obtain ⟨t0,t1⟩:=ZmJ e;simp only[ZbQ w.2.2.2.2.2.2.2.2.2.1 w.1 t0 t1,Zo,Zb,Q8,Bool.and_assoc,Bool.true_and]
theorem ZcN (w:Tup VJ) (h:ZjB w):r92 (w,())=some ((VK w,()),()):=by
 unfold r92 m92 VK;obtain ⟨h1,h2⟩:=h;simp only[Za3 (Zn7 w),ZdK (Kf w) h1,Zo,Zr];cases e:Xd (Zn7 w)with
 |false=>rfl
 |true=>
  obtain ⟨t0,t1⟩:=ZmJ e;have et:wI (Int.tdiv w.1 16)=Int.tdiv w.1 16:=by
   have:=Zix (c:=0) t0 t1 (by omega) (by omega) (.inr rfl:(16:Int)=64∨(16:Int)=16);simpa using this
  rw[et];unfold WV WX;cases XD (Kf w)with
  |false=>rfl
  |true=>
   by_cases hz:(Kf w).2.1.length=0
   ·rw[Zn (show (w.2.2.2.2.2.2.2.2.1.length:Int)=0 by have:w.2.2.2.2.2.2.2.2.1.length=0:=hz;omega),Ze hz];simp
   ·rw[Zi (show¬(w.2.2.2.2.2.2.2.2.1.length:Int)=0 by have: ¬w.2.2.2.2.2.2.2.2.1.length=0:=hz;omega),Zc hz,Zk (by have: ¬w.2.2.2.2.2.2.2.2.1.length=0:=hz;omega)];simp only[Q8,ZK,Zd,Zb,Bool.true_and]
abbrev QL:List LT:= .sl false .n:: .sl false .i::(XX++(Xi++(UF++(.int .i64:: .bool:: .int .i64:: .bool:: .int .i64:: .int .i64:: .sl false .i::(VA++VJ)))))
section
variable (s:Tup QL)
abbrev Wj:List (List Int):=s.1
abbrev Wk:List Int:=s.2.1
abbrev VL:Tup XX:=(s.2.2.1,(s.2.2.2.1,()))
abbrev Kh:Tup Xi:=(s.2.2.2.2.1,(s.2.2.2.2.2.1,(s.2.2.2.2.2.2.1,(s.2.2.2.2.2.2.2.1,(s.2.2.2.2.2.2.2.2.1,(s.2.2.2.2.2.2.2.2.2.1,(s.2.2.2.2.2.2.2.2.2.2.1,(s.2.2.2.2.2.2.2.2.2.2.2.1,()))))))))
abbrev ZrC:Tup UF:=(s.2.2.2.2.2.2.2.2.2.2.2.2.1,(s.2.2.2.2.2.2.2.2.2.2.2.2.2.1,()))
abbrev ZqS:Int:=s.2.2.2.2.2.2.2.2.2.2.2.2.2.1
abbrev spT:Int:=s.2.2.2.2.2.2.2.2.2.2.2.2.2.2.1
abbrev Zsf:Bool:=s.2.2.2.2.2.2.2.2.2.2.2.2.2.2.2.1
abbrev ZrB:Int:=s.2.2.2.2.2.2.2.2.2.2.2.2.2.2.2.2.1
abbrev Zoc:Int:=s.2.2.2.2.2.2.2.2.2.2.2.2.2.2.2.2.2.2.1
abbrev Zoe:Int:=s.2.2.2.2.2.2.2.2.2.2.2.2.2.2.2.2.2.2.2.1
abbrev Zgp:List Int:=s.2.2.2.2.2.2.2.2.2.2.2.2.2.2.2.2.2.2.2.2.1
abbrev Jw:Tup VA:=(s.2.2.2.2.2.2.2.2.2.2.2.2.2.2.2.2.2.2.2.2.2.1,(s.2.2.2.2.2.2.2.2.2.2.2.2.2.2.2.2.2.2.2.2.2.2.1,(s.2.2.2.2.2.2.2.2.2.2.2.2.2.2.2.2.2.2.2.2.2.2.2.1,(s.2.2.2.2.2.2.2.2.2.2.2.2.2.2.2.2.2.2.2.2.2.2.2.2.1,(s.2.2.2.2.2.2.2.2.2.2.2.2.2.2.2.2.2.2.2.2.2.2.2.2.2.1,(s.2.2.2.2.2.2.2.2.2.2.2.2.2.2.2.2.2.2.2.2.2.2.2.2.2.2.1,(s.2.2.2.2.2.2.2.2.2.2.2.2.2.2.2.2.2.2.2.2.2.2.2.2.2.2.2.1,(s.2.2.2.2.2.2.2.2.2.2.2.2.2.2.2.2.2.2.2.2.2.2.2.2.2.2.2.2.1,(s.2.2.2.2.2.2.2.2.2.2.2.2.2.2.2.2.2.2.2.2.2.2.2.2.2.2.2.2.2.1,(s.2.2.2.2.2.2.2.2.2.2.2.2.2.2.2.2.2.2.2.2.2.2.2.2.2.2.2.2.2.2.1,(s.2.2.2.2.2.2.2.2.2.2.2.2.2.2.2.2.2.2.2.2.2.2.2.2.2.2.2.2.2.2.2.1,())))))))))))
abbrev JP:Tup VJ:=s.2.2.2.2.2.2.2.2.2.2.2.2.2.2.2.2.2.2.2.2.2.2.2.2.2.2.2.2.2.2.2.2
end
theorem Zkh (a b:Int):ltI a b= !leI b a:=by
 by_cases h:a<b
 ·rw[Zk h,J0 (by omega)];rfl
 ·rw[Zx h,Zq (by omega)];rfl
def VF (r:Tup Yh) (t:Int):Bool:=if r.2.1.length=0 then true else leI (rdE .t r.2.1 ((r.2.1.length-1:Nat):Int)).1 t
theorem Zgh (r:Tup Yh) (t:Int) (hl:r.2.1.length≤4398046511104):r65 (r,(t,()))=some ((VF r t,()),()):=by
 unfold r65 m65 VF;simp only[Zr];by_cases h:r.2.1.length=0
 ·rw[Zn (by omega),Ze h];rfl
 ·rw[Zi (by omega),Zc h,ZiA h (by omega),Zq (by omega),Zk (by omega)];rfl
def Zpa (r:Tup Yh):Int:=if r.2.1.length=0 then 0 else (rdE .t r.2.1 ((r.2.1.length-1:Nat):Int)).1
theorem Zhn (r:Tup Yh) (hl:r.2.1.length≤4398046511104):r94 (r,())=some ((Zpa r,()),()):=by
 unfold r94 m94 Zpa;simp only[Zr];by_cases h:r.2.1.length=0
 ·rw[Zn (by omega),Ze h];rfl
 ·rw[Zi (by omega),Zc h,ZiA h (by omega),Zq (by omega),Zk (by omega)];rfl
theorem Zk5 (r:Tup Yh) (t:Int) (h:0≤t):leI (Zpa r) t=VF r t:=by
 unfold Zpa VF;split
 ·rw[Zq h]
 ·rfl
def ZX (s:Tup QL):Prop:=small (Wj s)∧(Wk s).length≤4398046511104∧(VL s).1.length≤4398046511104∧(Zgp s).length≤4398046511104∧Zjm (Jw s)∧ZjB (JP s)
def Ze4 (s:Tup QL):Bool:=inR 0 255 (ZqS s)&&(inR 0 255 (ZrB s)&&(inR 0 20000 (spT s)&&(inR 0 (spT s) (Zoc s)&&inR 0 (spT s) (Zoe s))))
def Zbn (s:Tup QL):Bool:=Y4 (Wj s) (VL s)&&(XC (Wk s)&&(Yp (Kh s)&&(VB (Jw s)&&VK (JP s))))
def Ze3 (s:Tup QL):Bool:=leI (Jw s).1 (spT s)&&(leI (JP s).1 (spT s)&&(VF (Kb (Jw s)) (spT s)&&VF (Kf (JP s)) (spT s)))
def Z8 (s:Tup QL):Bool:=Zbn s&&(Ze4 s&&Ze3 s)
theorem Vr (s:Tup QL) (h:ZX s):r24 (s,())=some ((Z8 s,()),()):=by
 unfold r24 m24;obtain ⟨h1,h2,h3,_,h5,h6⟩:=h;simp only[ZaV (Wj s) (VL s) h1 h3,Zbv (Wk s) (by omega),ZbY (Kh s),ZeQ (Jw s) h5,ZgT (JP s) h6,WF,Zdl,XH,
  Zgh (Kb (Jw s)) _ h5.2.1,Zgh (Kf (JP s)) _ h6.1,Zo]
 unfold Z8 Zbn Ze4 Ze3;generalize Y4 (Wj s) (VL s)=x0;generalize XC (Wk s)=x1;generalize Yp (Kh s)=x2;generalize VB (Jw s)=x3;generalize VK (JP s)=x4;generalize VF (Kb (Jw s)) (spT s)=x5;generalize VF (Kf (JP s)) (spT s)=x6;cases x0<;>cases x1<;>cases x2<;>cases x3<;>cases x4<;>first| (simp[Q8];done)| (simp[Q8,Bool.and_assoc];done)
theorem Vc (s:Tup QL) (h:ZX s):r36 (s,())=some ((Z8 s,()),()):=by
 unfold r36 m36;obtain ⟨h1,h2,h3,_,h5,h6⟩:=h;simp only[Za4 (Wj s) (VL s) h1 h3,ZbJ (Wk s) (by omega),Zb8 (Kh s),ZbT (Jw s) h5,ZcN (JP s) h6,Vs,JV,
  Zhn (Kb (Jw s)) h5.2.1,Zhn (Kf (JP s)) h6.1,Zo]
 unfold Z8 Zbn Ze4 Ze3;generalize Y4 (Wj s) (VL s)=x0;generalize XC (Wk s)=x1;generalize Yp (Kh s)=x2;generalize VB (Jw s)=x3;generalize VK (JP s)=x4;cases hT:inR 0 20000 (spT s)with
 |false=>cases x0<;>cases x1<;>cases x2<;>cases x3<;>cases x4<;>simp[Uk]
 |true=>
  have t0:=(JE.1 hT).1;rw[Zk5 _ _ t0,Zk5 _ _ t0];have e1:ltI (spT s) (Jw s).1= !leI (Jw s).1 (spT s):=Zkh _ _;have e2:ltI (spT s) (JP s).1= !leI (JP s).1 (spT s):=Zkh _ _;rw[e1,e2];cases x0<;>cases x1<;>cases x2<;>cases x3<;>cases x4<;>first| (simp[Uk,Q8];done)| (simp[Uk,Q8,Bool.and_assoc];done)| (simp[Uk,Q8,Bool.and_assoc];rfl)
theorem Xh (l:List Int) (h:l.length≤4398046511104):r52 (l,())=some ((l,()),()):=by
 unfold r52 m52;rw[ZP (by simp only[E.most];omega)];rfl
theorem ZaR (f:List (List Int)) (h:small f):r51 ((f,()),())=some (((f,()),()),()):=by
 have h0:=h.1;have key:=Zag (fun k i out=>n51_0 r52 k (f,((f.length:Int),())) ((out,()),()) ((i:Int),())) f (fun out=>(Sum.inl ((f.length:Int),()),((out,()),())))
  (fun k i out hi ho=>by
   simp only[n51_0,w51_0,Zr];rw[Zk (by omega),Zq (by omega),Qg .n f i hi,Qx (by omega),Xh _ (h.2.1 _ (List.getElem_mem hi))];simp only[Zb,Zo];rw[ZP (by simp only[E.most,List.length_singleton];omega)];rfl)
  (fun k out ho=>by
   simp only[n51_0,w51_0,Zr];rw[Zx (by omega)];rfl) fuel 0 [] (by omega) rfl (by have:=Z6;omega)
 unfold r51 m51 L51_0;simp only[Zr];simp only[Int.natCast_zero,List.drop_zero,List.nil_append]at key;rw[key];rfl
theorem Zal (f:List (List Int)) (h:small f):r81 ((f,()),())=some (((f,()),()),()):=by
 have h0:=h.1;have key:=Zag (fun k i out=>n81_0 k () ((f,()),((out,()),())) ((i:Int),())) f (fun out=>(Sum.inl ((f.length:Int),()),((f,()),((out,()),()))))
  (fun k i out hi ho=>by
   have hl:=h.2.1 _ (List.getElem_mem hi);simp only[n81_0,w81_0,Zr];rw[Zk (by omega),Zq (by omega),Qg .n f i hi,Qx (by omega)];rw[ZP (by simp only[E.most];omega),ZP (by simp only[E.most,List.length_singleton];omega)];rfl)
  (fun k out ho=>by
   simp only[n81_0,w81_0,Zr];rw[Zx (by omega)];rfl) fuel 0 [] (by omega) rfl (by have:=Z6;omega)
 unfold r81 m81 L81_0;simp only[Int.natCast_zero,List.drop_zero,List.nil_append]at key;rw[key];rfl
theorem Zbt (f:List (List Int)) (h:small f):r120 (f,())=some ((f,()),()):=by
 have h0:=h.1;have key:=Zag (fun k i out=>n120_0 r52 k (f,((f.length:Int),())) () (out,((i:Int),()))) f (fun out=>(Sum.inl (out,((f.length:Int),())),()))
  (fun k i out hi ho=>by
   simp only[n120_0,w120_0,Zr];rw[Zk (by omega),Zq (by omega),Qg .n f i hi,Qx (by omega),Xh _ (h.2.1 _ (List.getElem_mem hi))];simp only[Zb,Zo];rw[ZP (by simp only[E.most,List.length_singleton];omega)];rfl)
  (fun k out ho=>by
   simp only[n120_0,w120_0,Zr];rw[Zx (by omega)];rfl) fuel 0 [] (by omega) rfl (by have:=Z6;omega)
 unfold r120 m120 L120_0;simp only[Zr];simp only[Int.natCast_zero,List.drop_zero,List.nil_append]at key;rw[key];rfl
theorem Zcp (f:List (List Int)) (h:small f):r147 (f,())=some ((f,()),()):=by
 have h0:=h.1;have key:=Zag (fun k i out=>n147_0 k (f,()) () (out,((i:Int),()))) f (fun out=>(Sum.inl (out,((f.length:Int),())),()))
  (fun k i out hi ho=>by
   have hl:=h.2.1 _ (List.getElem_mem hi);simp only[n147_0,w147_0,Zr];rw[Zk (by omega),Zq (by omega),Qg .n f i hi,Qx (by omega)];rw[ZP (by simp only[E.most];omega),ZP (by simp only[E.most,List.length_singleton];omega)];rfl)
  (fun k out ho=>by
   simp only[n147_0,w147_0,Zr];rw[Zx (by omega)];rfl) fuel 0 [] (by omega) rfl (by have:=Z6;omega)
 unfold r147 m147 L147_0;simp only[Int.natCast_zero,List.drop_zero,List.nil_append]at key;rw[key];rfl
theorem Zg8 (x:Tup XX) (h:x.1.length≤4398046511104):r66 (x,())=some ((x,()),()):=by
 unfold r66 m66;exact Za (Xh x.1 h) rfl
theorem Zdp (x:Tup XX) (h:x.1.length≤4398046511104):r85 (x,())=some ((x,()),()):=by
 unfold r85 m85;simp only;rw[ZP (by simp only[E.most];omega)];rfl
theorem Zg9 (p:Tup Yb) (h:VC p):r119 (p,())=some ((p,()),()):=by
 unfold r119 m119;exact Za (Xh p.2.2.2.2.2.2.1 h.1) (Za (Xh p.2.2.2.2.2.2.2.1 h.2) rfl)
theorem Ux (p:Tup Yb) (h:VC p):r145 (p,())=some ((p,()),()):=by
 unfold r145 m145;obtain ⟨h1,h2⟩:=h;simp only;rw[ZP (by simp only[E.most];omega),ZP (by simp only[E.most];omega)];rfl
theorem ZcQ (r:Tup Yh) (h:r.2.1.length≤4398046511104):r56 (r,())=some ((r,()),()):=by
 unfold r56 m56;simp only;rw[ZP (by simp only[E.most];omega)];rfl
theorem Zcq (r:Tup Yh) (h:r.2.1.length≤4398046511104):r146 (r,())=some ((r,()),()):=by
 unfold r146 m146;simp only;rw[ZP (by simp only[E.most];omega)];rfl
theorem ZgL (w:Tup VA) (h:Zjm w):r67 (w,())=some ((w,()),()):=by
 unfold r67 m67;exact Za (Zg9 (WP w) h.1) (Za (ZcQ (Kb w) h.2.1) (Za (Zbt w.2.2.2.2.2.2.2.2.2.2.1 h.2.2) rfl))
theorem ZiN (w:Tup VJ) (h:ZjB w):r68 (w,())=some ((w,()),()):=by
 unfold r68 m68;exact Za (ZcQ (Kf w) h.1) (Za (Xh w.2.2.2.2.2.2.2.2.2.1 h.2) rfl)
theorem U6 (s:Tup QL) (h:ZX s):r25 (s,())=some ((s,()),()):=by
 unfold r25 m25;obtain ⟨h1,h2,h3,h4,h5,h6⟩:=h;exact Za (ZaR (Wj s) h1) (Za (Xh (Wk s) h2) (Za (Zg8 (VL s) h3) (Za (Xh (Zgp s) h4) (Za (ZgL (Jw s) h5) (Za (ZiN (JP s) h6) rfl)))))
abbrev Zir (s:Tup QL):List (List Int):=(Jw s).2.2.2.2.2.2.2.2.2.2.1
abbrev ZdG (s:Tup QL):List Int:=(JP s).2.2.2.2.2.2.2.2.2.1
def UC (s:Tup QL):Tup K8:=(Zir s,(ZdG s,(Zgp s,())))
theorem ZeC (s:Tup QL) (h:ZX s):r212 (s,())=some ((UC s,()),()):=by
 unfold r212 m212;obtain ⟨h1,h2,h3,h4,h5,h6⟩:=h;exact Za (Zbt (Zir s) h5.2.2) (Za (Xh (ZdG s) h6.2) (Za (Xh (Zgp s) h4) rfl))
theorem ZeK (s:Tup QL) (h:ZX s):r227 (s,())=some ((UC s,()),()):=by
 unfold r227 m227;obtain ⟨h1,h2,h3,h4,h5,h6⟩:=h;refine Za (Zcp (Zir s) h5.2.2) ?_;have a1:(ZdG s).length≤4398046511104:=h6.2;rw[ZP (show 0+(ZdG s).length≤E.most .i by simp only[E.most];omega),ZP (show 0+(Zgp s).length≤E.most .i by simp only[E.most];omega)];rfl
def ZnP (s:Tup QL):Bool:=eqI (Jw s).1 (spT s)&&eqI ((Kb (Jw s)).2.1.length:Int) 0
def Zob (s:Tup QL):Bool:=eqI (JP s).1 (spT s)&&eqI ((Kf (JP s)).2.1.length:Int) 0
theorem ZbR (s:Tup QL):r194 (s,())=some ((ZnP s,()),()):=by
 unfold r194 m194;simp only[Zr,Q8];rfl
theorem Zbb (s:Tup QL):r190 (s,())=some ((Zob s,()),()):=by
 unfold r190 m190;simp only[Zr,Q8];rfl
theorem Zb3 (s:Tup QL):r160 (s,())=some ((ZnP s,()),()):=by
 unfold r160 m160;simp only[Zr,Q8];rfl
theorem Zbz (s:Tup QL):r155 (s,())=some ((Zob s,()),()):=by
 unfold r155 m155;simp only[Zr,Q8];rfl
def Zmh:Tup Xn:=([],([],([],(0,(0,(0,(0,(0,(false,(false,(false,(false,(0,(0,(0,(0,(0,(false,([],([],(0,(0,(0,(0,(0,(false,(false,(false,(0,(false,(0,([],([],([],()))))))))))))))))))))))))))))))))))
def Zp7 (s:Tup QL):Tup Xn:=(Wj s,(Wk s,((VL s).1,((VL s).2.1,((Kh s).1,((Kh s).2.1,((Kh s).2.2.1,((Kh s).2.2.2.1,((Kh s).2.2.2.2.1,((Kh s).2.2.2.2.2.1,((Kh s).2.2.2.2.2.2.1,((Kh s).2.2.2.2.2.2.2.1,
 ((Jw s).1,((Jw s).2.1,((Jw s).2.2.1,((Jw s).2.2.2.1,((Jw s).2.2.2.2.1,((Jw s).2.2.2.2.2.1,((Jw s).2.2.2.2.2.2.1,((Jw s).2.2.2.2.2.2.2.1,
 ((JP s).1,((JP s).2.1,((JP s).2.2.1,((JP s).2.2.2.1,((JP s).2.2.2.2.1,((JP s).2.2.2.2.2.1,((JP s).2.2.2.2.2.2.1,((ZrC s).1,((ZrC s).2.1,(Zsf s,(Zoe s,UC s)))))))))))))))))))))))))))))))
def VV (s:Tup QL):Tup Xn:=if Z8 s&&(ZnP s&&Zob s)then Zp7 s else Zmh
theorem Zh9 (s:Tup QL) (h:ZX s):r214 (s,())=some ((VV s,()),()):=by
 unfold r214 m214 VV;refine Za (Vr s h) ?_;cases Z8 s with
 |false=>rfl
 |true=>
  refine Za (ZbR s) ?_;cases ZnP s with
  |false=>rfl
  |true=>
   refine Za (Zbb s) ?_;cases Zob s with
   |false=>rfl
   |true=>exact Za (U6 s h) (Za (ZeC s h) rfl)
theorem Zis (s:Tup QL) (h:ZX s):r229 (s,())=some ((VV s,()),()):=by
 unfold r229 m229 VV;have h':=h;obtain ⟨h1,h2,h3,h4,h5,h6⟩:=h;refine Za (Vc s h') ?_;cases Z8 s with
 |false=>rfl
 |true=>
  refine Za (Zb3 s) ?_;cases ZnP s with
  |false=>rfl
  |true=>
   refine Za (Zbz s) ?_;cases Zob s with
   |false=>rfl
   |true=>
    refine Za (Zal (Wj s) h1) ?_;rw[ZP (show 0+(Wk s).length≤E.most .i by simp only[E.most];omega)];exact Za (Zdp (VL s) h3) (Za (Ux (WP (Jw s)) h5.1) (Za (ZeK s h') rfl))
theorem mod256 (x:Int):0≤x%256∧x%256≤255:=by omega
theorem Xl (y:PTup i242):r242 y=some (((y.1:Int)%256,()),()):=by
 unfold r242 m242;rw[Vn]
theorem QY (y:PTup i80):r80 y=some (((y.1:Int)%256,()),()):=by
 unfold r80 m80;rw[Vn]
theorem ZaK (y:PTup i252):r252 y=some (((y.1:Int)%65536,()),()):=by
 unfold r252 m252;rw[Zg5]
theorem VM (y:PTup i222):r222 y=some (((y.1:Int)%65536,()),()):=by
 unfold r222 m222;rw[Zg5]
def QU (b:Bool):Int:=if b then 1 else 0
theorem Zfw (y:PTup i301):r301 y=some ((QU y.1,()),()):=by
 unfold r301 m301 QU;obtain ⟨b,_⟩:=y;cases b<;>rfl
theorem Zdo (y:PTup i326):r326 y=some ((QU y.1,()),()):=by
 unfold r326 m326 QU;obtain ⟨b,_⟩:=y;cases b<;>rfl
theorem XQ (b:Bool):0≤QU b∧QU b≤1:=by cases b<;>simp[QU]
def Xm (lo hi:Int):Int:=lo%256+256*(hi%256)
theorem Zak (y:PTup i178):r178 y=some ((Xm y.1 y.2.1,()),()):=by
 unfold r178 m178 Xm;obtain ⟨lo,hi,_⟩:=y;simp only[Xl,Zo];have h1:=mod256 lo;have h2:=mod256 hi;rw[Zt (x:=256*(hi%256)) (by omega) (by omega),Zt (by omega) (by omega)]
theorem ZaP (y:PTup i143):r143 y=some ((Xm y.1 y.2.1,()),()):=by
 unfold r143 m143 Xm;obtain ⟨lo,hi,_⟩:=y;simp only[QY,Zo];have h1:=mod256 lo;have h2:=mod256 hi;rw[Zt (x:=256*(hi%256)) (by omega) (by omega),Zt (by omega) (by omega)]
theorem Zb1 (y:PTup i306):r306 y=some ((eqI ((y.1:Int)%256) 0,(ltI 127 ((y.1:Int)%256),())),()):=by
 unfold r306 m306;simp only[Xl,Zo]
theorem Zcd (y:PTup i330):r330 y=some ((eqI ((y.1:Int)%256) 0,(ltI 127 ((y.1:Int)%256),())),()):=by
 unfold r330 m330;simp only[QY,Zo]
def KT (a b:Int) (c:Bool):Int:=a%256+b%256+QU c
theorem ZfE (y:PTup i304):r304 y=some ((KT y.1 y.2.1 y.2.2.1%256,(ltI 255 (KT y.1 y.2.1 y.2.2.1),())),()):=by
 unfold r304 m304 KT;obtain ⟨a,b,c,_⟩:=y;simp only[Xl,Zfw,Zo];have h1:=mod256 a;have h2:=mod256 b;have h3:=XQ c;rw[Zt (x:=a%256+b%256) (by omega) (by omega),Zt (x:=a%256+b%256+QU c) (by omega) (by omega)]
theorem Zky (y:PTup i342):r342 y=some ((KT y.1 y.2.1 y.2.2.1%256,(ltI 255 (KT y.1 y.2.1 y.2.2.1),())),()):=by
 unfold r342 m342 KT;obtain ⟨a,b,c,_⟩:=y;simp only[QY,Zdo,Zo];have h1:=mod256 a;have h2:=mod256 b;have h3:=XQ c;rw[Zt (x:=a%256+b%256) (by omega) (by omega),Zt (x:=a%256+b%256+QU c) (by omega) (by omega)]
def Y8 (a b:Int) (c:Bool):Int:=a%256-b%256-1+QU c
theorem ZfO (y:PTup i305):r305 y=some ((Y8 y.1 y.2.1 y.2.2.1%256,(leI 0 (Y8 y.1 y.2.1 y.2.2.1),())),()):=by
 unfold r305 m305 Y8;obtain ⟨a,b,c,_⟩:=y;simp only[Xl,Zfw,Zo];have h1:=mod256 a;have h2:=mod256 b;have h3:=XQ (!c);rw[Zt (x:=a%256-b%256) (by omega) (by omega),Zt (x:=a%256-b%256-QU (!c)) (by omega) (by omega),show a%256-b%256-QU (!c)=a%256-b%256-1+QU c by cases c<;>simp[QU]]
theorem ZkC (y:PTup i329):r329 y=some ((Y8 y.1 y.2.1 y.2.2.1%256,(leI 0 (Y8 y.1 y.2.1 y.2.2.1),())),()):=by
 unfold r329 m329 Y8;obtain ⟨a,b,c,_⟩:=y;simp only[QY,Zdo,Zo];have h1:=mod256 a;have h2:=mod256 b;have h3:=XQ c;rw[Zt (x:=a%256-b%256) (by omega) (by omega),Zt (x:=a%256-b%256-1) (by omega) (by omega),Zt (x:=a%256-b%256-1+QU c) (by omega) (by omega)]
theorem Ka {n:Int} (h:0≤n∧n≤29):n=0∨n=1∨n=2∨n=3∨n=4∨n=5∨n=6∨n=7∨n=8∨n=9∨n=10∨n=11∨n=12∨n=13∨n=14∨n=15∨n=16∨n=17∨n=18∨n=19∨n=20∨n=21∨n=22∨n=23∨n=24∨n=25∨n=26∨n=27∨n=28∨n=29:=by omega
def Qf (n:Int):Int:=if 0≤n∧n≤29 then ([1,2,3,3,2,2,2,2,2,2,1,1,1,1,3,3,3,3,3,3,3,1,1,1,1,1,1,1,1,3]:List Int).getD n.toNat 1 else 1
def Qr (n:Int):Int:=if 0≤n∧n≤29 then ([2,2,4,4,2,2,2,2,2,2,2,2,2,2,4,5,3,3,3,3,6,6,3,4,6,2,2,2,2,4]:List Int).getD n.toNat 2 else 2
def ZS (n:Int):Int:=if n=2∨n=14∨n=29 then 1 else if n=3∨n=15 then 2 else 0
theorem ZaW (y:PTup i109):r109 y=some ((Qf y.1,()),()):=by
 obtain ⟨(n:Int),_⟩:=y;show r109 (n,())=some ((Qf n,()),());by_cases h:0≤n∧n≤29
 ·rcases Ka h with rfl|rfl|rfl|rfl|rfl|rfl|rfl|rfl|rfl|rfl|rfl|rfl|rfl|rfl|rfl|rfl|rfl|rfl|rfl|rfl|rfl|rfl|rfl|rfl|rfl|rfl|rfl|rfl|rfl|rfl<;>rfl
 ·have e: ∀c:Int,0≤c→c≤29→eqI n c=false:=fun c h0 h1=>Zi (by omega);have e2: ∀a b:Int,0≤a→b≤29→inR a b n=false:=fun a b h0 h1=>by
   cases hh:inR a b n with
   |false=>rfl
   |true=>have:=JE.1 hh;omega
  unfold r109 m109 Qf;rw[Zc h];simp[e,e2,XH]
theorem Za5 (y:PTup i142):r142 y=some ((Qf y.1,()),()):=by
 obtain ⟨(n:Int),_⟩:=y;show r142 (n,())=some ((Qf n,()),());by_cases h:0≤n∧n≤29
 ·rcases Ka h with rfl|rfl|rfl|rfl|rfl|rfl|rfl|rfl|rfl|rfl|rfl|rfl|rfl|rfl|rfl|rfl|rfl|rfl|rfl|rfl|rfl|rfl|rfl|rfl|rfl|rfl|rfl|rfl|rfl|rfl<;>rfl
 ·have e2:inR 0 29 n=false:=by
   cases hh:inR 0 29 n with
   |false=>rfl
   |true=>exact absurd (JE.1 hh) h
  unfold r142 m142 Qf;rw[Zc h];simp only[JV,Zo,e2,QF,Zb]
theorem Zaa (y:PTup i195):r195 y=some ((Qr y.1,()),()):=by
 obtain ⟨(n:Int),_⟩:=y;show r195 (n,())=some ((Qr n,()),());by_cases h:0≤n∧n≤29
 ·rcases Ka h with rfl|rfl|rfl|rfl|rfl|rfl|rfl|rfl|rfl|rfl|rfl|rfl|rfl|rfl|rfl|rfl|rfl|rfl|rfl|rfl|rfl|rfl|rfl|rfl|rfl|rfl|rfl|rfl|rfl|rfl<;>rfl
 ·have e: ∀c:Int,0≤c→c≤29→eqI n c=false:=fun c h0 h1=>Zi (by omega);unfold r195 m195 Qr;rw[Zc h];simp[e]
theorem Zab (y:PTup i161):r161 y=some ((Qr y.1,()),()):=by
 obtain ⟨(n:Int),_⟩:=y;show r161 (n,())=some ((Qr n,()),());by_cases h:0≤n∧n≤29
 ·rcases Ka h with rfl|rfl|rfl|rfl|rfl|rfl|rfl|rfl|rfl|rfl|rfl|rfl|rfl|rfl|rfl|rfl|rfl|rfl|rfl|rfl|rfl|rfl|rfl|rfl|rfl|rfl|rfl|rfl|rfl|rfl<;>rfl
 ·have e2:inR 0 29 n=false:=by
   cases hh:inR 0 29 n with
   |false=>rfl
   |true=>exact absurd (JE.1 hh) h
  unfold r161 m161 Qr;rw[Zc h];simp only[JV,Zo,e2,QF,Zb]
theorem ZfJ (y:PTup i251):r251 y=some ((ZS y.1,()),()):=by
 obtain ⟨(n:Int),_⟩:=y;show r251 (n,())=some ((ZS n,()),());by_cases h:0≤n∧n≤29
 ·rcases Ka h with rfl|rfl|rfl|rfl|rfl|rfl|rfl|rfl|rfl|rfl|rfl|rfl|rfl|rfl|rfl|rfl|rfl|rfl|rfl|rfl|rfl|rfl|rfl|rfl|rfl|rfl|rfl|rfl|rfl|rfl<;>rfl
 ·have e: ∀c:Int,0≤c→c≤29→eqI n c=false:=fun c h0 h1=>Zi (by omega);unfold r251 m251 ZS;rw[Zc (by omega),Zc (by omega)];simp[e]
theorem Zgw (y:PTup i221):r221 y=some ((ZS y.1,()),()):=by
 obtain ⟨(n:Int),_⟩:=y;show r221 (n,())=some ((ZS n,()),());by_cases h:0≤n∧n≤29
 ·rcases Ka h with rfl|rfl|rfl|rfl|rfl|rfl|rfl|rfl|rfl|rfl|rfl|rfl|rfl|rfl|rfl|rfl|rfl|rfl|rfl|rfl|rfl|rfl|rfl|rfl|rfl|rfl|rfl|rfl|rfl|rfl<;>rfl
 ·have e: ∀c:Int,0≤c→c≤29→eqI n c=false:=fun c h0 h1=>Zi (by omega);unfold r221 m221 ZS;rw[Zc (by omega),Zc (by omega)];simp[e]
structure ZF where
 ram:List Int
 bank:Int
structure Zp where
 a:Int
 x:Int
 s:Int
 pc:Int
 z:Bool
 n:Bool
 c:Bool
 i:Bool
structure ZZ where
 T:Int
 ctrl:Int
 scroll:Int
 addr:Int
 pal:Int
 blank:Bool
 table:List Int
 dots:List Int
structure Qq where
 T:Int
 period:Int
 count:Int
 bit:Int
 len:Int
 asks:Bool
 irq:Bool
structure YB where
 held:Bool
 shift:Int
def ZF.t (x:ZF):Tup XX:=(x.ram,(x.bank,()))
def Zp.t (c:Zp):Tup Xi:=(c.a,(c.x,(c.s,(c.pc,(c.z,(c.n,(c.c,(c.i,()))))))))
def ZZ.t (p:ZZ):Tup Yb:=(p.T,(p.ctrl,(p.scroll,(p.addr,(p.pal,(p.blank,(p.table,(p.dots,()))))))))
def Qq.t (a:Qq):Tup KU:=(a.T,(a.period,(a.count,(a.bit,(a.len,(a.asks,(a.irq,())))))))
def YB.t (x:YB):Tup UF:=(x.held,(x.shift,()))
def ZsA (x:Tup XX):ZF:=⟨x.1,x.2.1⟩
def Zsx (c:Tup Xi):Zp:=⟨c.1,c.2.1,c.2.2.1,c.2.2.2.1,c.2.2.2.2.1,c.2.2.2.2.2.1,c.2.2.2.2.2.2.1,c.2.2.2.2.2.2.2.1⟩
def ZsD (p:Tup Yb):ZZ:=⟨p.1,p.2.1,p.2.2.1,p.2.2.2.1,p.2.2.2.2.1,p.2.2.2.2.2.1,p.2.2.2.2.2.2.1,p.2.2.2.2.2.2.2.1⟩
def Zsv (a:Tup KU):Qq:=⟨a.1,a.2.1,a.2.2.1,a.2.2.2.1,a.2.2.2.2.1,a.2.2.2.2.2.1,a.2.2.2.2.2.2.1⟩
def ZsC (x:Tup UF):YB:=⟨x.1,x.2.1⟩
def J7 (l:List Int):Prop:= ∀n,n∈l→0≤n∧n≤255
structure Yn (f:List (List Int)):Prop where
 banks: ∀b,b∈f→b.length=256∧J7 b
 lo:1≤f.length
 hi:f.length≤8
structure JJ (x:ZF):Prop where
 len:x.ram.length=512
 bytes:J7 x.ram
structure Jz (f:List (List Int)) (x:ZF):Prop where
 img:Yn f
 ram:JJ x
 b0:0≤x.bank
 b1:x.bank< (f.length:Int)
structure ZM (c:Zp):Prop where
 a:0≤c.a∧c.a≤255
 x:0≤c.x∧c.x≤255
 s:0≤c.s∧c.s≤255
 pc:0≤c.pc∧c.pc≤65535
theorem Zc6 {lo hi:Int} {l:List Int}:YN lo hi l=true↔ ∀n,n∈l→lo≤n∧n≤hi:=by
 unfold YN;rw[List.all_eq_true];exact ⟨fun h n hn=>JE.1 (h n hn),fun h n hn=>JE.2 (h n hn)⟩
theorem Vq {a b:Int}:eqI a b=true↔a=b:=by rw[Qn];simp
theorem WJ {a b:Int}:leI a b=true↔a≤b:=by simp[leI]
theorem ZfD {f:List (List Int)}:V1 f=true↔Yn f:=by
 unfold V1;rw[Bool.and_eq_true,List.all_eq_true,JE];constructor
 ·rintro ⟨h,h1,h2⟩;refine ⟨fun b hb=> ?_,by omega,by omega⟩;have:=h b hb;unfold KW at this;rw[Bool.and_eq_true,Vq,Zc6]at this;exact ⟨by omega,this.2⟩
 ·rintro ⟨h,h1,h2⟩;refine ⟨fun b hb=> ?_,by omega,by omega⟩;unfold KW;rw[Bool.and_eq_true,Vq,Zc6];exact ⟨by have:=(h b hb).1;omega,(h b hb).2⟩
theorem UA {f:List (List Int)} {x:ZF}:Y4 f x.t=true↔Jz f x:=by
 unfold Y4 ZF.t;simp only[Bool.and_eq_true,ZfD,Vq,Zc6,JE];constructor
 ·rintro ⟨h,h1,h2,h3,h4⟩;exact ⟨h,⟨by omega,h2⟩,h3,by omega⟩
 ·rintro ⟨h,⟨h1,h2⟩,h3,h4⟩;exact ⟨h,by omega,h2,h3,by omega⟩
theorem Zda {c:Zp}:Yp c.t=true↔ZM c:=by
 unfold Yp Zp.t;simp only[Bool.and_eq_true,JE];constructor
 ·rintro ⟨h,h1,h2,h3⟩;exact ⟨h,h1,h2,h3⟩
 ·rintro ⟨h,h1,h2,h3⟩;exact ⟨h,h1,h2,h3⟩
theorem Yn.small {f:List (List Int)} (h:Yn f):small f:=by
 have key: ∀g:List (List Int),(∀b,b∈g→b.length=256)→Wv g=256*g.length:=by
  intro g;induction g with
  |nil=>intro _;rfl
  |cons b g ih=>
   intro hb;simp only[Wv,List.length_cons];rw[ih (fun b hg=>hb b (List.mem_cons_of_mem _ hg)),hb b List.mem_cons_self];omega
 have hi:=h.hi;refine ⟨by omega,fun l hl=> ?_,?_⟩
 ·have:=(h.banks l hl).1;omega
 ·rw[key f fun b hb=>(h.banks b hb).1];omega
def YI (c:Zp) (v:Int):Zp:={c with a:=v%256,z:=eqI (v%256) 0,n:=ltI 127 (v%256)}
def VI (c:Zp) (v:Int):Zp:={c with x:=v%256,z:=eqI (v%256) 0,n:=ltI 127 (v%256)}
def wfT (c:Zp) (f:Int):Zp:={c with z:=neI (ZN .i64 f 2) 0,n:=neI (ZN .i64 f 128) 0,c:=neI (ZN .i64 f 1) 0,i:=neI (ZN .i64 f 4) 0}
def Uq (c:Zp):Int:=QU c.c+2*QU c.z+4*QU c.i+128*QU c.n
theorem K4 (c:Zp) (v:Int):r303 (c.t,(v,()))=some (((YI c v).t,()),()):=by
 unfold r303 m303;simp only[Xl,Zb1,Zo];rfl
theorem VN (c:Zp) (v:Int):r290 (c.t,(v,()))=some (((YI c v).t,()),()):=by
 unfold r290 m290;simp only[QY,Zcd,Zo];rfl
theorem ZcS (c:Zp) (v:Int):r307 (c.t,(v,()))=some (((VI c v).t,()),()):=by
 unfold r307 m307;simp only[Xl,Zb1,Zo];rfl
theorem ZcZ (c:Zp) (v:Int):r331 (c.t,(v,()))=some (((VI c v).t,()),()):=by
 unfold r331 m331;simp only[QY,Zcd,Zo];rfl
theorem Ziq {c:Zp} {v:Int} (h:ZM c):ZM (YI c v):=⟨mod256 v,h.x,h.s,h.pc⟩
theorem ZqP {c:Zp} {v:Int} (h:ZM c):ZM (VI c v):=⟨h.a,mod256 v,h.s,h.pc⟩
theorem ZeR (c:Zp) (f:Int):r310 (c.t,(f,()))=some (((wfT c f).t,()),()):=rfl
theorem ZeU (c:Zp) (f:Int):r291 (c.t,(f,()))=some (((wfT c f).t,()),()):=rfl
theorem Zq0 {c:Zp} {f:Int} (h:ZM c):ZM (wfT c f):=⟨h.a,h.x,h.s,h.pc⟩
theorem Zi0 (c:Zp):r255 (c.t,())=some ((Uq c,()),()):=by
 unfold r255 m255 Uq;simp only[Zfw,Zo,Zp.t];obtain ⟨a,x,s,pc,z,n,c,i⟩:=c;simp only;cases z<;>cases n<;>cases c<;>cases i<;>rfl
theorem ZjD (c:Zp):r280 (c.t,())=some ((Uq c,()),()):=by
 unfold r280 m280 Uq;simp only[Zdo,Zo,Zp.t];obtain ⟨a,x,s,pc,z,n,c,i⟩:=c;simp only;cases z<;>cases n<;>cases c<;>cases i<;>rfl
def rgT (a:Int):Int×Int:=
 let b:=a%65536
 if b<8192 then (1,b%512)else if b<16384 then (2,b%8)else if b<16388 then (3,b%4)else if b=16406 then (4,0)else if b<32768 then (7,0)else if b<49152 then (5,b%256)else (6,b%256)
theorem Qw {a b:Int} (h:0≤a):Int.tmod a b=a%b:=Int.tmod_eq_emod_of_nonneg h
theorem Zi1 (a:Int):r193 (a,())=some (((rgT a).1,((rgT a).2,())),()):=by
 unfold r193 m193 rgT;simp only[ZaK,Zo];have h0:0≤a%65536:=by omega
 generalize a%65536=b at*;rw[Qw h0,Qw h0,Qw h0,Qw h0];by_cases h1:b<8192
 ·rw[Zk h1,Ze h1];rfl
 rw[Zx h1,Zc h1,Zd];by_cases h1:b<16384
 ·rw[Zk h1,Ze h1];rfl
 rw[Zx h1,Zc h1,Zd];by_cases h1:b<16388
 ·rw[Zk h1,Ze h1];rfl
 rw[Zx h1,Zc h1,Zd];by_cases h1:b=16406
 ·rw[Zn h1,Ze h1];rfl
 rw[Zi h1,Zc h1,Zd];by_cases h1:b<32768
 ·rw[Zk h1,Ze h1];rfl
 rw[Zx h1,Zc h1,Zd];by_cases h1:b<49152
 ·rw[Zk h1,Ze h1];rfl
 rw[Zx h1,Zc h1,Zd]
theorem WD (y:PTup i193):r193 y=some (((rgT y.1).1,((rgT y.1).2,())),()):=Zi1 y.1
theorem ZjF (a:Int):r159 (a,())=some (((rgT a).1,((rgT a).2,())),()):=by
 unfold r159 m159 rgT;simp only[VM,Zo];have h0:0≤a%65536:=by omega
 generalize a%65536=b at*;rw[Qw h0,Qw h0,Qw h0,Qw h0];by_cases h1:b<8192
 ·rw[Zk h1,Ze h1];rfl
 rw[Zx h1,Zc h1,Zd];by_cases h1:b<16384
 ·rw[Zk h1,Ze h1];rfl
 rw[Zx h1,Zc h1,Zd];by_cases h1:b<16388
 ·rw[Zk h1,Ze h1];rfl
 rw[Zx h1,Zc h1,Zd];by_cases h1:b=16406
 ·rw[Zn h1,Ze h1];rfl
 rw[Zi h1,Zc h1,Zd];by_cases h1:b<32768
 ·rw[Zk h1,Ze h1];rfl
 rw[Zx h1,Zc h1,Zd];by_cases h1:b<49152
 ·rw[Zk h1,Ze h1];rfl
 rw[Zx h1,Zc h1,Zd]
theorem Wl (y:PTup i159):r159 y=some (((rgT y.1).1,((rgT y.1).2,())),()):=ZjF y.1
theorem UM (a:Int):((rgT a).1=1∧0≤(rgT a).2∧(rgT a).2<512)∨((rgT a).1=2∧0≤(rgT a).2∧(rgT a).2<8)∨((rgT a).1=3∧0≤(rgT a).2∧(rgT a).2<4)∨((rgT a).1=4∧(rgT a).2=0)∨((rgT a).1=5∧0≤(rgT a).2∧(rgT a).2<256)∨((rgT a).1=6∧0≤(rgT a).2∧(rgT a).2<256)∨((rgT a).1=7∧(rgT a).2=0):=by
 unfold rgT;simp only;split
 ·left;exact ⟨rfl,by show 0≤a%65536%512;omega,by show a%65536%512<512;omega⟩
 right;split
 ·left;exact ⟨rfl,by show 0≤a%65536%8;omega,by show a%65536%8<8;omega⟩
 right;split
 ·left;exact ⟨rfl,by show 0≤a%65536%4;omega,by show a%65536%4<4;omega⟩
 right;split
 ·left;exact ⟨rfl,rfl⟩
 right;split
 ·right;right;exact ⟨rfl,rfl⟩
 split
 ·left;exact ⟨rfl,by show 0≤a%65536%256;omega,by show a%65536%256<256;omega⟩
 ·right;left;exact ⟨rfl,by show 0≤a%65536%256;omega,by show a%65536%256<256;omega⟩
def ZQ (f:List (List Int)) (x:ZF) (a:Int):Int:=
 if (rgT a).1=1 then rdE .i x.ram (rgT a).2 else if (rgT a).1=5 then rdI (rdE .n f x.bank) (rgT a).2 else if (rgT a).1=6 then rdI (rdE .n f ((f.length:Int)-1)) (rgT a).2 else 0
theorem KF {e:E} {l:List e.C} {i:Int} (h0:0≤i) (h1:i< (l.length:Int)):rdE e l i∈l:=by
 have:i.toNat<l.length:=by omega
 rw[show rdE e l i=l[i.toNat] by simp[rdE,List.getD,this]];exact List.getElem_mem _
theorem ZnV {l:List Int} {i:Int} (h0:0≤i) (h1:i< (l.length:Int)):rdI l i∈l:=KF (e:= .i) h0 h1
theorem Zej {f:List (List Int)} {x:ZF} (h:Jz f x) (a:Int):0≤ZQ f x a∧ZQ f x a≤255:=by
 have hf:=h.img.lo;have hb0:=h.b0;have hb1:=h.b1;have hl:=h.ram.len;unfold ZQ;have z:(0:Int)≤0∧(0:Int)≤255:=by decide
 rcases UM a with ⟨e,h0,h1⟩| ⟨e,h0,h1⟩| ⟨e,h0,h1⟩| ⟨e,h0⟩| ⟨e,h0,h1⟩| ⟨e,h0,h1⟩| ⟨e,h0⟩<;>rw[e]
 ·exact h.ram.bytes _ (KF (e:= .i) h0 (by omega))
 ·exact z
 ·exact z
 ·exact z
 ·have hm:=h.img.banks _ (KF (e:= .n) hb0 hb1);exact hm.2 _ (ZnV h0 (by have:=hm.1;omega))
 ·have hm:=h.img.banks _ (KF (e:= .n) (l:=f) (i:=(f.length:Int)-1) (by omega) (by omega));exact hm.2 _ (ZnV h0 (by have:=hm.1;omega))
 ·exact z
theorem V2 (f:List (List Int)) (x:ZF) (a:Int) (h:Jz f x):r198 ((f,()),(x.t,(a,())))=some ((ZQ f x a,()),()):=by
 have hf:=h.img.lo;have hg:=h.img.hi;have hb0:=h.b0;have hb1:=h.b1;have hl:=h.ram.len;unfold r198 m198 ZQ;simp only[WD,Zo,Zr,ZF.t];rw[Zt (x:=(f.length:Int)-1) (by omega) (by omega)];rcases UM a with ⟨e,h0,h1⟩| ⟨e,h0,h1⟩| ⟨e,h0,h1⟩| ⟨e,h0⟩| ⟨e,h0,h1⟩| ⟨e,h0,h1⟩| ⟨e,h0⟩<;>rw[e]
 ·rw[Zq h0,Zk (by omega)];rfl
 ·rfl
 ·rfl
 ·rfl
 ·have hm:=(h.img.banks _ (KF (e:= .n) hb0 hb1)).1;rw[Zq hb0,Zk hb1,Zq h0,Zk (show (rgT a).2< ((rdE .n f x.bank:List Int).length:Int) by omega)];rfl
 ·have hm:=(h.img.banks _ (KF (e:= .n) (l:=f) (i:=(f.length:Int)-1) (by omega) (by omega))).1;rw[Zq (show 0≤(f.length:Int)-1 by omega),Zk (show (f.length:Int)-1< (f.length:Int) by omega),Zq h0,Zk (show (rgT a).2< ((rdE .n f ((f.length:Int)-1):List Int).length:Int) by omega)];rfl
 ·rfl
theorem Zcb (f:List (List Int)) (x:ZF) (a:Int) (h:Jz f x):r217 ((f,()),(x.t,(a,())))=some ((ZQ f x a,()),()):=by
 have hf:=h.img.lo;have hg:=h.img.hi;have hb0:=h.b0;have hb1:=h.b1;have hl:=h.ram.len;unfold r217 m217 ZQ;simp only[Wl,Zo,Zr,ZF.t];rw[Zt (x:=(f.length:Int)-1) (by omega) (by omega)];rcases UM a with ⟨e,h0,h1⟩| ⟨e,h0,h1⟩| ⟨e,h0,h1⟩| ⟨e,h0⟩| ⟨e,h0,h1⟩| ⟨e,h0,h1⟩| ⟨e,h0⟩<;>rw[e]
 ·rw[Zq h0,Zk (by omega)];rfl
 ·rfl
 ·rfl
 ·rfl
 ·have hm:=(h.img.banks _ (KF (e:= .n) hb0 hb1)).1;rw[Zq hb0,Zk hb1,Zq h0,Zk (show (rgT a).2< ((rdE .n f x.bank:List Int).length:Int) by omega)];rfl
 ·have hm:=(h.img.banks _ (KF (e:= .n) (l:=f) (i:=(f.length:Int)-1) (by omega) (by omega))).1;rw[Zq (show 0≤(f.length:Int)-1 by omega),Zk (show (f.length:Int)-1< (f.length:Int) by omega),Zq h0,Zk (show (rgT a).2< ((rdE .n f ((f.length:Int)-1):List Int).length:Int) by omega)];rfl
 ·rfl
theorem Zj7 (f:List (List Int)) (x:ZF) (h:Jz f x):r57 ((f,()),(x.t,()))=some ((true,()),()):=by
 have:=ZaV f x.t h.img.small (by show x.ram.length≤_;have:=h.ram.len;omega);rw[UA.2 h]at this;exact this
theorem Zgv (f:List (List Int)) (x:ZF) (h:Jz f x):r89 ((f,()),(x.t,()))=some ((true,()),()):=by
 have:=Za4 f x.t h.img.small (by show x.ram.length≤_;have:=h.ram.len;omega);rw[UA.2 h]at this;exact this
theorem ZfL (f:List (List Int)) (x:ZF) (a:Int) (h:Jz f x):r179 ((f,()),(x.t,(a,())))=some ((ZQ f x a,()),()):=by
 unfold r179 m179;exact Za (Zj7 f x h) (Za (V2 f x a h) rfl)
theorem Zao (f:List (List Int)) (x:ZF) (a:Int) (h:Jz f x):r144 ((f,()),(x.t,(a,())))=some ((ZQ f x a,()),()):=by
 unfold r144 m144;exact Za (Zgv f x h) (Za (Zcb f x a h) rfl)
def KE (f:List (List Int)) (x:ZF) (a v:Int):ZF:=
 if (rgT a).1=1 then {x with ram:=x.ram.set (rgT a).2.toNat (v%256)}else if (rgT a).1=5∨(rgT a).1=6 then {x with bank:=(v%256)% (f.length:Int)}else x
theorem J7.set {l:List Int} (h:J7 l) (i:Nat) {v:Int} (hv:0≤v∧v≤255):J7 (l.set i v):=fun n hn=>by
 rcases List.mem_or_eq_of_mem_set hn with h1|h1
 ·exact h n h1
 ·rw[h1];exact hv
theorem ZnQ {f:List (List Int)} {x:ZF} (h:Jz f x) (a v:Int):Jz f (KE f x a v):=by
 have hf:=h.img.lo;unfold KE;split
 ·exact ⟨h.img,⟨by simp[h.ram.len],h.ram.bytes.set _ (mod256 v)⟩,h.b0,h.b1⟩
 split
 ·exact ⟨h.img,⟨h.ram.len,h.ram.bytes⟩,Int.emod_nonneg _ (by omega),Int.emod_lt_of_pos _ (by omega)⟩
 ·exact h
theorem ZfM (f:List (List Int)) (x:ZF) (a v:Int) (h:Jz f x):r260 (x.t,((f,()),(a,(v,()))))=some ((),((KE f x a v).t,())):=by
 have hf:=h.img.lo;have hl:=h.ram.len;unfold r260 m260 KE;simp only[WD,Xl,Zo,Zr,ZF.t];have hv:=mod256 v;rw[Qw hv.1,QW (show (f.length:Int)≠0 by omega)];rcases UM a with ⟨e,h0,h1⟩| ⟨e,h0,h1⟩| ⟨e,h0,h1⟩| ⟨e,h0⟩| ⟨e,h0,h1⟩| ⟨e,h0,h1⟩| ⟨e,h0⟩<;>rw[e]
 ·rw[Zq h0,Zk (by omega)];rfl
 all_goals rfl
theorem Zdq (x:ZF) (h:x.ram.length=512):r85 (x.t,())=some ((x.t,()),()):=Zdp x.t (by show x.ram.length≤_;omega)
theorem Zgy (f:List (List Int)) (x:ZF) (a v:Int) (h:Jz f x):r286 ((f,()),(x.t,(a,(v,()))))=some (((KE f x a v).t,()),()):=by
 have hf:=h.img.lo;have hl:=h.ram.len;unfold r286 m286 KE;refine Za (Zdq x hl) (Za (Zgv f x h) ?_);simp only[Wl,QY,Zo,Zr,ZK,Zd,ZF.t];have hv:=mod256 v;rw[Qw hv.1,QW (show (f.length:Int)≠0 by omega)];rcases UM a with ⟨e,h0,h1⟩| ⟨e,h0,h1⟩| ⟨e,h0,h1⟩| ⟨e,h0⟩| ⟨e,h0,h1⟩| ⟨e,h0,h1⟩| ⟨e,h0⟩<;>rw[e]
 ·rw[Zq h0,Zk (by omega)];rfl
 all_goals rfl
def Kd (x:ZF) (c:Zp) (v:Int):ZF:={x with ram:=x.ram.set (256+c.s%256).toNat (v%256)}
def Kc (c:Zp):Zp:={c with s:=(c.s-1)%256}
def Yu (c:Zp):Zp:={c with s:=(c.s+1)%256}
def Yd (x:ZF) (c:Zp):Int:=rdE .i x.ram (256+(c.s+1)%256)
theorem UI {x:ZF} (h:JJ x) (c:Zp) (v:Int):JJ (Kd x c v):=⟨by simp[Kd,h.len],h.bytes.set _ (mod256 v)⟩
theorem UH {c:Zp} (h:ZM c):ZM (Kc c):=⟨h.a,h.x,mod256 _,h.pc⟩
theorem WS {c:Zp} (h:ZM c):ZM (Yu c):=⟨h.a,h.x,mod256 _,h.pc⟩
theorem Zmr {x:ZF} (h:JJ x) (c:Zp):0≤Yd x c∧Yd x c≤255:=by
 have:=mod256 (c.s+1);have hl:=h.len;exact h.bytes _ (KF (e:= .i) (by omega) (by omega))
theorem Zbx (x:ZF) (c:Zp) (v:Int) (h:JJ x) (hc:ZM c):r254 (x.t,(c.t,(v,())))=some ((),((Kd x c v).t,((Kc c).t,()))):=by
 have hl:=h.len;have hs:=hc.s;unfold r254 m254 Kd Kc;simp only[Xl,Zo,Zr,ZF.t,Zp.t];have h1:=mod256 c.s;rw[Q2 (by omega),Zt (x:=256+c.s%256) (by omega) (by omega),Zq (by omega),Zk (by omega),Zt (x:=c.s-1) (by omega) (by omega)];rfl
theorem Zap (x:ZF) (c:Zp) (v:Int) (h:JJ x) (hc:ZM c):r281 (x.t,(c.t,(v,())))=some (((Kd x c v).t,((Kc c).t,())),()):=by
 have hl:=h.len;have hs:=hc.s;unfold r281 m281 Kd Kc;refine Za (Zdq x hl) ?_;simp only[QY,Zo,Zr,ZF.t,Zp.t];have h1:=mod256 c.s;rw[Q2 (by omega),Zt (x:=256+c.s%256) (by omega) (by omega),Zq (by omega),Zk (by omega),Zt (x:=c.s-1) (by omega) (by omega)];rfl
theorem Zbw (x:ZF) (c:Zp) (h:JJ x) (hc:ZM c):r309 (x.t,(c.t,()))=some ((Yd x c,()),(x.t,((Yu c).t,()))):=by
 have hl:=h.len;have hs:=hc.s;unfold r309 m309 Yd Yu;simp only[Xl,Zo,Zr,ZF.t,Zp.t];rw[Zt (x:=c.s+1) (by omega) (by omega)];have h1:=mod256 (c.s+1);rw[Q2 (by omega),Zt (x:=256+(c.s+1)%256) (by omega) (by omega),Zq (by omega),Zk (by omega)];rfl
theorem ZbK (x:ZF) (c:Zp) (h:JJ x) (hc:ZM c):r289 (x.t,(c.t,()))=some (((Yu c).t,(Yd x c,())),()):=by
 have hl:=h.len;have hs:=hc.s;have hb:=Zmr h c;unfold Yd at hb;unfold r289 m289 Yd Yu;simp only[QY,Zo,Zr,ZF.t,Zp.t];rw[Zt (x:=c.s+1) (by omega) (by omega)];have h1:=mod256 (c.s+1);rw[Q2 (by omega),Zt (x:=256+(c.s+1)%256) (by omega) (by omega),Zq (by omega),Zk (by omega)];rw[show (rdE .i x.ram (256+(c.s+1)%256):Int)%256=rdE .i x.ram (256+(c.s+1)%256)from Int.emod_eq_of_lt hb.1 (Int.lt_of_le_of_lt hb.2 (by decide))];rfl

end Go.Proofs.YtcbdldlphpjmbaaGreatDoor.Plain
