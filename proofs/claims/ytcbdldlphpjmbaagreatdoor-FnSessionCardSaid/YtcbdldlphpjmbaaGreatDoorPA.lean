/- Plain laws of the printed functions: Cp, Obs, Lock, Ok, Ok2, Ok3, Copies, Bytes, Cpu. No condition beyond those that each lemma states. -/
import Derived.Test.YtcbdldlphpjmbaaGreatDoorX
import Derived.Test.YtcbdldlphpjmbaaGreatDoorFn2
set_option linter.unusedVariables false
set_option linter.unusedSimpArgs false
namespace Go.Proofs.YtcbdldlphpjmbaaGreatDoor.Plain
open Go Go.Tev
def Wz:List (List Int)→Nat| []=>0|l::f=>l.length+Wz f
def small (f:List (List Int)):Prop:=f.length≤4398046511104∧(∀l,l∈f→l.length≤4398046511104)∧Wz f≤4398046511104
def left (n:Int) (k:Nat):Int:=if n< (k:Int)then-1 else n-(k:Int)
theorem Zfj (a b:List Int) (h1:a.length≤4398046511104): ∀(k i:Nat),i≤a.length→i≤b.length→a.length-i<k→
  n277_0 k (a,(b,())) () ((i:Int),())=if (a.drop i).take (b.length-i)=(b.drop i).take (a.length-i)then some (Sum.inl (((min a.length b.length:Nat):Int),()),())else some (Sum.inr (false,()),())
 |0,_,_,_,h=>absurd h (by omega)
 |k+1,i,hi,hj,hk=>by
  unfold n277_0 w277_0;simp only[Zs];by_cases h:i<a.length
  ·rw[Zl (show (i:Int)< (a.length:Int) by omega)];by_cases hb:i<b.length
   ·rw[Zl (by omega),Zp (by omega),Qn .i a i h,Qn .i b i hb,Ql (by omega)];simp only[Zb];rw[J0 h,J0 hb,show b.length-i=(b.length-(i+1))+1 by omega,show a.length-i=(a.length-(i+1))+1 by omega,List.take_succ_cons,List.take_succ_cons];by_cases hx:a[i]=b[i]
    ·rw[Ja hx,Zd,Zfj a b h1 k (i+1) (by omega) (by omega) (by omega)];simp only[List.cons.injEq,hx,true_and]
    ·rw[QS hx,Zb];simp only[List.cons.injEq,hx,false_and,if_false]
   ·have:i=b.length:=by omega
    subst this;rw[Zx (by omega),Zb,Zd];simp only[Nat.sub_self,List.take_zero,List.drop_length,List.take_nil,if_true];rw[show min a.length b.length=b.length by omega]
  ·have:i=a.length:=by omega
   subst this;rw[Zx (by omega),Zd];simp only[Nat.sub_self,List.take_zero,List.drop_length,List.take_nil,if_true];rw[show min a.length b.length=a.length by omega]
def beg {α:Type} [DecidableEq α] (a b:List α):Bool:=decide (a.length≤b.length∧a=b.take a.length)
theorem Zfk (a b:List Int) (h1:a.length≤4398046511104):r277 (a,(b,()))=some ((beg a b,()),()):=by
 unfold r277 m277 L277_0;simp only[Zs];have:=Zfj a b h1 fuel 0 (by omega) (by omega) (by have:=ZZ;omega);simp only[Int.natCast_zero,List.drop_zero,Nat.sub_zero]at this;rw[this];by_cases e:a.take b.length=b.take a.length
 ·rw[Ze e];simp only[Zo,ZE,Zsm,beg];by_cases hl:a.length≤b.length
  ·rw[List.take_of_length_le hl]at e;rw[ZB (show (a.length:Int)≤(b.length:Int) by omega),ZB ⟨hl,e⟩]
  ·rw[Zw (show¬(a.length:Int)≤(b.length:Int) by omega),Zw (fun h=>hl h.1)]
 ·rw[Zc e];simp only[Zo,ZE,beg];rw[Zw];rintro ⟨hl,h⟩;rw[List.take_of_length_le hl]at e;exact e h
theorem Zm8 {α:Type} [DecidableEq α] {a b:List α} (h:a.length=b.length):beg a b=decide (a=b):=by
 unfold beg;congr 1;rw[eq_iff_iff];constructor
 ·rintro ⟨_,e⟩;rw[e,h,List.take_length]
 ·rintro rfl;simp
theorem Zeq (a b:List Int) (h1:a.length≤4398046511104):r225 (a,(b,()))=some ((decide (a=b),()),()):=by
 unfold r225 m225;simp only[Zs];by_cases h:a.length=b.length
 ·rw[Zn (by omega),Zb,Zfk a b h1,Zm8 h];rfl
 ·rw[Zi (by omega),Zd,Zw (fun e=>h (by rw[e]))]
theorem Zhk (a b:List Int) (h1:a.length≤4398046511104) (hab:a.length=b.length): ∀(k i:Nat),i≤a.length→a.length-i<k→
  n210_0 k (a,(b,((a.length:Int),()))) () ((i:Int),())=if a.drop i=b.drop i then some (Sum.inl ((a.length:Int),()),())else some (Sum.inr (false,()),())
 |0,_,_,h=>absurd h (by omega)
 |k+1,i,hi,hk=>by
  unfold n210_0 w210_0;simp only[Zs];by_cases h:i<a.length
  ·have hb:i<b.length:=by omega
   rw[Zl (by omega),Zp (by omega),Zl (by omega),Qn .i a i h,Qn .i b i hb,Ql (by omega)];simp only[Zb];rw[J0 h,J0 hb];by_cases hx:a[i]=b[i]
   ·rw[Ja hx,Zd,Zhk a b h1 hab k (i+1) (by omega) (by omega)];simp only[List.cons.injEq,hx,true_and]
   ·rw[QS hx,Zb];simp only[List.cons.injEq,hx,false_and,if_false]
  ·have:i=a.length:=by omega
   subst this;rw[Zx (by omega)];simp[hab]
theorem Uy (a b:List Int) (h1:a.length≤4398046511104):r210 (a,(b,()))=some ((decide (a=b),()),()):=by
 unfold r210 m210 L210_0;simp only[Zs];by_cases h:a.length=b.length
 ·have:=Zhk a b h1 h fuel 0 (by omega) (by have:=ZZ;omega);simp only[Int.natCast_zero,List.drop_zero]at this;rw[Ja (by omega),Zd,this];by_cases e:a=b<;>simp[e,ZE]
 ·rw[QS (by omega),Zb];rw[show decide (a=b)=false from Zw (fun e=>h (by rw[e]))]
theorem Zfy (a b:List (List Int)) (h1:small a) (hab:a.length=b.length): ∀(k i:Nat),i≤a.length→a.length-i<k→
  n321_0 r322 k (b,((),(a,((a.length:Int),())))) () ((i:Int),())=if a.drop i=b.drop i then some (Sum.inl ((a.length:Int),()),())else some (Sum.inr (false,()),())
 |0,_,_,h=>absurd h (by omega)
 |k+1,i,hi,hk=>by
  unfold n321_0 w321_0;simp only[Zs];have:=h1.1;by_cases h:i<a.length
  ·have hb:i<b.length:=by omega
   rw[Zl (by omega),Zp (by omega),Zl (by omega),Qn .n a i h,Qn .n b i hb,Ql (by omega)];rw[show r322 (a[i],(b[i],()))=some ((decide (a[i]=b[i]),()),()) by
    unfold r322 m322;rw[Uy _ _ (h1.2.1 _ (List.getElem_mem h))];rfl]
   simp only[Zb,Zo];rw[J0 h,J0 hb];by_cases hx:a[i]=b[i]
   ·rw[show (!decide (a[i]=b[i]))=false by simp[hx],Zd,Zfy a b h1 hab k (i+1) (by omega) (by omega)];simp only[List.cons.injEq,hx,true_and]
   ·rw[show (!decide (a[i]=b[i]))=true by simpa using hx,Zb];simp only[List.cons.injEq,hx,false_and,if_false]
  ·have:i=a.length:=by omega
   subst this;rw[Zx (by omega)];simp[hab]
theorem Znq (a b:List (List Int)) (h1:small a):r321 (a,(b,((),())))=some ((decide (a=b),()),()):=by
 unfold r321 m321 L321_0;simp only[Zs];have:=h1.1;by_cases h:a.length=b.length
 ·have:=Zfy a b h1 h fuel 0 (by omega) (by have:=ZZ;omega);simp only[Int.natCast_zero,List.drop_zero]at this;rw[Ja (by omega),Zd,this];by_cases e:a=b<;>simp[e,ZE]
 ·rw[QS (by omega),Zb];rw[show decide (a=b)=false from Zw (fun e=>h (by rw[e]))]
theorem ZfE (a b:Tup [.sl false .n, .sl false .i, .sl false .i]) (h1:small a.1) (hab:a.1.length≤b.1.length): ∀(k i:Nat),i≤a.1.length→a.1.length-i<k→
  n226_0 r277 r225 k () (a,(b,())) ((i:Int),())=if a.1.drop i=(b.1.drop i).take (a.1.length-i)then some (Sum.inl ((a.1.length:Int),()),(a,(b,())))else some (Sum.inr (false,()),(a,(b,())))
 |0,_,_,h=>absurd h (by omega)
 |k+1,i,hi,hk=>by
  unfold n226_0 w226_0;simp only[Zs];have:=h1.1;by_cases h:i<a.1.length
  ·have hb:i<b.1.length:=by omega
   rw[Zl (show (i:Int)< (a.1.length:Int) by omega),Zp (by omega),Zl (show (i:Int)< (b.1.length:Int) by omega),Qn .n a.1 i h,Qn .n b.1 i hb,Ql (by omega),Zeq _ _ (h1.2.1 _ (List.getElem_mem h))];simp only[Zb,Zo];rw[J0 h,J0 hb,show a.1.length-i=(a.1.length-(i+1))+1 by omega,List.take_succ_cons];by_cases hx:a.1[i]=b.1[i]
   ·rw[show (!decide (a.1[i]=b.1[i]))=false by simp[hx],Zd,ZfE a b h1 hab k (i+1) (by omega) (by omega)];simp only[List.cons.injEq,hx,true_and]
   ·rw[show (!decide (a.1[i]=b.1[i]))=true by simpa using hx,Zb];simp only[List.cons.injEq,hx,false_and,if_false]
  ·have:i=a.1.length:=by omega
   subst this;rw[Zx (by omega)];simp
abbrev Vb:List LT:=[.sl false .n, .sl false .i, .sl false .i]
def UL (a:Tup Vb):Prop:=small a.1∧a.2.1.length≤4398046511104∧a.2.2.1.length≤4398046511104
def Kj (a b:Tup Vb):Bool:=beg a.1 b.1&&(beg a.2.1 b.2.1&&beg a.2.2.1 b.2.2.1)
def Wa (a b:Tup Vb):Bool:=decide (a.1=b.1)&&(decide (a.2.1=b.2.1)&&decide (a.2.2.1=b.2.2.1))
theorem ZbL (a b:Tup Vb) (ha:UL a):r226 (a,(b,()))=some ((Kj a b,()),()):=by
 unfold r226 m226 L226_0;obtain ⟨h1,h2,h3⟩:=ha;simp only[Zs];have:=h1.1;by_cases h:b.1.length<a.1.length
 ·rw[Zl (by omega),Zb];have:beg a.1 b.1=false:=Zw (fun hh=>by omega);simp only[Kj,this,Bool.false_and]
 ·rw[Zx (by omega),Zd,Zfk _ _ h2];simp only[Zo,Kj];cases e1:beg a.2.1 b.2.1 with
  |false=>simp
  |true=>
   simp only[ZM,Zd];rw[Zfk _ _ h3];simp only[Zo];cases e2:beg a.2.2.1 b.2.2.1 with
   |false=>simp
   |true=>
    have:=ZfE a b h1 (by omega) fuel 0 (by omega) (by have:=ZZ;omega);simp only[Int.natCast_zero,List.drop_zero,Nat.sub_zero]at this;simp only[ZM,Zd,this,Bool.and_true];by_cases e:a.1=b.1.take a.1.length
    ·rw[Ze e];simp only[Zo,ZE,beg];rw[ZB ⟨by omega,e⟩]
    ·rw[Zc e];simp only[Zo,ZE,beg];rw[Zw (fun hh=>e hh.2)]
theorem Zh2 {α:Type} [DecidableEq α] (a b:List α):(beg a b&&beg b a)=decide (a=b):=by
 by_cases h:a.length=b.length
 ·rw[Zm8 h,Zm8 h.symm];by_cases e:a=b
  ·subst e;simp
  ·simp[e]
 ·rw[show decide (a=b)=false from Zw (fun e=>h (by rw[e]))];rcases Nat.lt_or_gt_of_ne h with h|h
  ·rw[show beg b a=false from Zw (fun hh=>by omega),Bool.and_false]
  ·rw[show beg a b=false from Zw (fun hh=>by omega),Bool.false_and]
theorem Zkw (a b:Tup Vb):(Kj a b&&Kj b a)=Wa a b:=by
 unfold Kj Wa;rw[←Zh2 a.1 b.1,←Zh2 a.2.1 b.2.1,←Zh2 a.2.2.1 b.2.2.1];cases beg a.1 b.1<;>cases beg b.1 a.1<;>cases beg a.2.1 b.2.1<;>cases beg b.2.1 a.2.1<;>simp
theorem ZkQ (a b:Tup Vb) (ha:UL a) (hb:UL b):r279 (a,(b,()))=some ((Wa a b,()),()):=by
 unfold r279 m279;rw[ZbL a b ha];simp only[Zo];rw[←Zkw];cases e:Kj a b with
 |false=>simp
 |true=>rw[Zb,ZbL b a hb];simp
theorem ZfU (a b:Tup Vb) (ha:UL a):r273 (a,(b,()))=some ((Wa a b,()),()):=by
 unfold r273 m273;obtain ⟨h1,h2,h3⟩:=ha;rw[Znq _ _ h1];simp only[Zo,Wa];by_cases e1:a.1=b.1
 ·rw[ZB e1,Zb,Uy _ _ h2];simp only[Zo];by_cases e2:a.2.1=b.2.1
  ·rw[ZB e2,Zb,Uy _ _ h3];simp
  ·rw[Zw e2];simp
 ·rw[Zw e1];simp
theorem Zh3 {α:Type} [DecidableEq α] (a b:List α) (h:a.length≤b.length):decide (a=b.take a.length)=beg a b:=by
 unfold beg;congr 1;rw[eq_iff_iff];exact ⟨fun e=>⟨h,e⟩,fun e=>e.2⟩
theorem Zii (a b:Tup Vb) (ha:UL a):r211 (a,(b,()))=some ((Kj a b,()),()):=by
 unfold r211 m211;simp only[Zs,Int.toNat_natCast];by_cases h1:b.1.length<a.1.length
 ·rw[Zl (by omega),Zb];simp[Kj,show beg a.1 b.1=false from Zw (fun hh=>by omega)]
 rw[Zx (by omega),Zd];by_cases h2:b.2.1.length<a.2.1.length
 ·rw[Zl (by omega),Zb];simp[Kj,show beg a.2.1 b.2.1=false from Zw (fun hh=>by omega)]
 rw[Zx (by omega),Zd];by_cases h3:b.2.2.1.length<a.2.2.1.length
 ·rw[Zl (by omega),Zb];simp[Kj,show beg a.2.2.1 b.2.2.1=false from Zw (fun hh=>by omega)]
 rw[Zx (by omega),Zd,Zp (by omega),Zp (by omega),Zp (by omega)];simp only[Zb];rw[ZfU _ _ ha];simp only[Zo,Wa,Kj];rw[Zh3 _ _ (by omega),Zh3 _ _ (by omega),Zh3 _ _ (by omega)]
abbrev Kh:List LT:=[.sl false .i, .int .i64]
abbrev Xm:List LT:=[.int .i64, .int .i64, .int .i64, .int .i64, .bool, .bool, .bool, .bool]
abbrev Yb:List LT:=[.int .i64, .int .i64, .int .i64, .int .i64, .int .i64, .bool, .sl false .i, .sl false .i]
abbrev KX:List LT:=[.int .i64, .int .i64, .int .i64, .int .i64, .int .i64, .bool, .bool]
abbrev UM:List LT:=[.bool, .int .i64]
abbrev Xr:List LT:= .sl false .n:: .sl false .i::(Kh++(Xm++(Yb++(KX++(UM++(.bool:: .int .i64::Vb))))))
def VG (a:Tup Yb):Prop:=a.2.2.2.2.2.2.1.length≤4398046511104∧a.2.2.2.2.2.2.2.1.length≤4398046511104
section
variable (a:Tup Xr)
abbrev Zsn:List (List Int):=a.1
abbrev ZrO:List Int:=a.2.1
abbrev JN:Tup Kh:=(a.2.2.1,(a.2.2.2.1,()))
abbrev KF:Tup Xm:=(a.2.2.2.2.1,(a.2.2.2.2.2.1,(a.2.2.2.2.2.2.1,(a.2.2.2.2.2.2.2.1,(a.2.2.2.2.2.2.2.2.1,(a.2.2.2.2.2.2.2.2.2.1,(a.2.2.2.2.2.2.2.2.2.2.1,(a.2.2.2.2.2.2.2.2.2.2.2.1,()))))))))
abbrev Y6:Tup Yb:=(a.2.2.2.2.2.2.2.2.2.2.2.2.1,(a.2.2.2.2.2.2.2.2.2.2.2.2.2.1,(a.2.2.2.2.2.2.2.2.2.2.2.2.2.2.1,(a.2.2.2.2.2.2.2.2.2.2.2.2.2.2.2.1,(a.2.2.2.2.2.2.2.2.2.2.2.2.2.2.2.2.1,(a.2.2.2.2.2.2.2.2.2.2.2.2.2.2.2.2.2.1,(a.2.2.2.2.2.2.2.2.2.2.2.2.2.2.2.2.2.2.1,(a.2.2.2.2.2.2.2.2.2.2.2.2.2.2.2.2.2.2.2.1,()))))))))
abbrev UG:Tup KX:=(a.2.2.2.2.2.2.2.2.2.2.2.2.2.2.2.2.2.2.2.2.1,(a.2.2.2.2.2.2.2.2.2.2.2.2.2.2.2.2.2.2.2.2.2.1,(a.2.2.2.2.2.2.2.2.2.2.2.2.2.2.2.2.2.2.2.2.2.2.1,(a.2.2.2.2.2.2.2.2.2.2.2.2.2.2.2.2.2.2.2.2.2.2.2.1,(a.2.2.2.2.2.2.2.2.2.2.2.2.2.2.2.2.2.2.2.2.2.2.2.2.1,(a.2.2.2.2.2.2.2.2.2.2.2.2.2.2.2.2.2.2.2.2.2.2.2.2.2.1,(a.2.2.2.2.2.2.2.2.2.2.2.2.2.2.2.2.2.2.2.2.2.2.2.2.2.2.1,())))))))
abbrev XB:Tup UM:=(a.2.2.2.2.2.2.2.2.2.2.2.2.2.2.2.2.2.2.2.2.2.2.2.2.2.2.2.1,(a.2.2.2.2.2.2.2.2.2.2.2.2.2.2.2.2.2.2.2.2.2.2.2.2.2.2.2.2.1,()))
abbrev J1:Tup Vb:=a.2.2.2.2.2.2.2.2.2.2.2.2.2.2.2.2.2.2.2.2.2.2.2.2.2.2.2.2.2.2.2
end
def WB (a b:Tup Xm):Bool:=eqI a.1 b.1&&(eqI a.2.1 b.2.1&&(eqI a.2.2.1 b.2.2.1&&(eqI a.2.2.2.1 b.2.2.2.1&&((a.2.2.2.2.1==b.2.2.2.2.1)&&((a.2.2.2.2.2.1==b.2.2.2.2.2.1)&&((a.2.2.2.2.2.2.1==b.2.2.2.2.2.2.1)&&((a.2.2.2.2.2.2.2.1==b.2.2.2.2.2.2.2.1)&&true)))))))
def Zqk (a b:Tup KX):Bool:=eqI a.1 b.1&&(eqI a.2.1 b.2.1&&(eqI a.2.2.1 b.2.2.1&&(eqI a.2.2.2.1 b.2.2.2.1&&(eqI a.2.2.2.2.1 b.2.2.2.2.1&&((a.2.2.2.2.2.1==b.2.2.2.2.2.1)&&((a.2.2.2.2.2.2.1==b.2.2.2.2.2.2.1)&&true))))))
def VC (a b:Tup UM):Bool:=(a.1==b.1)&&(eqI a.2.1 b.2.1&&true)
def UH (a b:Tup Kh):Bool:=eqI a.2.1 b.2.1&&decide (a.1=b.1)
def Zn5 (a b:Tup Yb):Bool:=eqI a.1 b.1&&(eqI a.2.1 b.2.1&&(eqI a.2.2.1 b.2.2.1&&(eqI a.2.2.2.1 b.2.2.2.1&&(eqI a.2.2.2.2.1 b.2.2.2.2.1&&((a.2.2.2.2.2.1==b.2.2.2.2.2.1)&&(decide (a.2.2.2.2.2.2.1=b.2.2.2.2.2.2.1)&&decide (a.2.2.2.2.2.2.2.1=b.2.2.2.2.2.2.2.1)))))))
def YT (a:Tup Xr):Prop:=small a.1∧a.2.1.length≤4398046511104∧a.2.2.1.length≤4398046511104∧VG (Y6 a)∧UL (J1 a)
theorem ZhC (a b:Tup Kh) (h:a.1.length≤4398046511104):r209 (a,(b,()))=some ((UH a b,()),()):=by
 unfold r209 m209;rw[Uy _ _ h];simp only[Zo,Q7];rfl
theorem ZmG (a b:Tup Yb) (h:VG a):r274 (a,(b,()))=some ((Zn5 a b,()),()):=by
 unfold r274 m274;rw[Uy _ _ h.1];rw[show r210 (a.2.2.2.2.2.2.2.1,b.2.2.2.2.2.2.2)=some ((decide (a.2.2.2.2.2.2.2.1=b.2.2.2.2.2.2.2.1),()),())from Uy _ _ h.2];simp only[Zo,Q7];rfl
theorem ZmO (a b:Tup Yb) (h:VG a):r278 (a,(b,()))=some ((Zn5 a b,()),()):=by
 unfold r278 m278;rw[Zeq _ _ h.1];rw[show r225 (a.2.2.2.2.2.2.2.1,b.2.2.2.2.2.2.2)=some ((decide (a.2.2.2.2.2.2.2.1=b.2.2.2.2.2.2.2.1),()),())from Zeq _ _ h.2];simp only[Zo,Q7];rfl
def Zlp (a b:Tup Xr):Bool:=
 WB (KF a) (KF b)&&(Zqk (UG a) (UG b)&&(VC (XB a) (XB b)&&((a.2.2.2.2.2.2.2.2.2.2.2.2.2.2.2.2.2.2.2.2.2.2.2.2.2.2.2.2.2.1==b.2.2.2.2.2.2.2.2.2.2.2.2.2.2.2.2.2.2.2.2.2.2.2.2.2.2.2.2.2.1)&&
  (eqI a.2.2.2.2.2.2.2.2.2.2.2.2.2.2.2.2.2.2.2.2.2.2.2.2.2.2.2.2.2.2.1 b.2.2.2.2.2.2.2.2.2.2.2.2.2.2.2.2.2.2.2.2.2.2.2.2.2.2.2.2.2.2.1&&(UH (JN a) (JN b)&&(Zn5 (Y6 a) (Y6 b)&&Wa (J1 a) (J1 b)))))))
theorem ZfP (a b:Tup Xr) (h:YT a):r213 (a,(b,()))=some ((Zlp a b,()),()):=by
 unfold r213 m213;obtain ⟨_,_,h3,h4,h5⟩:=h;simp only[ZhC (JN a) (JN b) h3,ZmG (Y6 a) (Y6 b) h4,ZfU (J1 a) (J1 b) h5,Zo,Q7];rfl
def inR (lo hi n:Int):Bool:=leI lo n&&leI n hi
def YP (lo hi:Int) (l:List Int):Bool:=l.all (inR lo hi)
theorem JE {lo hi n:Int}:inR lo hi n=true↔lo≤n∧n≤hi:=by simp[inR,leI]
theorem XQ (y:PTup i64):r64 y=some ((inR y.2.1 y.2.2.1 y.1,()),()):=by
 unfold r64 m64;simp only[Q7];rfl
theorem JV (y:PTup i41):r41 y=some ((inR y.2.1 y.2.2.1 y.1,()),()):=by
 unfold r41 m41;simp only[Q7];rfl
theorem WK (y:PTup i62):r62 y=some ((inR 0 255 y.1,()),()):=by
 unfold r62 m62;simp only[XQ,Zo]
theorem Vv (y:PTup i93):r93 y=some ((inR 0 255 y.1,()),()):=by
 unfold r93 m93;simp only[JV,Zo]
theorem Zdr (y:PTup i63):r63 y=some ((inR 0 20000 y.1,()),()):=by
 unfold r63 m63;simp only[XQ,Zo]
theorem Zco (l:List Int) (hl:l.length≤4611686018427387904):r113 (l,())=some ((YP 0 255 l,()),()):=by
 have key:=Kv (fun k i=>n113_0 r62 k (l,((l.length:Int),())) () ((i:Int),())) l (inR 0 255) (Sum.inl ((l.length:Int),()),()) (Sum.inr (false,()),())
  (fun k i h hq=>by
   simp only[n113_0,w113_0,Zs];rw[Zl (by omega),Zp (by omega),Qn .i l i h,WK,Ql (by omega)];simp only[Zb,Zo,hq,ZM,Zd])
  (fun k i h hq=>by
   simp only[n113_0,w113_0,Zs];rw[Zl (by omega),Zp (by omega),Qn .i l i h,WK];simp only[Zb,Zo,hq,QE])
  (fun k=>by
   simp only[n113_0,w113_0,Zs];rw[Zx (by omega)];rfl) fuel 0 (by omega) (by have:=ZZ;omega)
 unfold r113 m113 L113_0;simp only[Zs];simp only[Int.natCast_zero,List.drop_zero]at key;rw[key];unfold YP;cases l.all (inR 0 255)<;>rfl
theorem Zfr (l:List Int) (hl:l.length≤4611686018427387904):r180 (l,())=some ((YP 0 63 l,()),()):=by
 have key:=Kv (fun k i=>n180_0 r64 k (l,((l.length:Int),())) () ((i:Int),())) l (inR 0 63) (Sum.inl ((l.length:Int),()),()) (Sum.inr (false,()),())
  (fun k i h hq=>by
   simp only[n180_0,w180_0,Zs];rw[Zl (by omega),Zp (by omega),Qn .i l i h,XQ,Ql (by omega)];simp only[Zb,Zo,hq,ZM,Zd])
  (fun k i h hq=>by
   simp only[n180_0,w180_0,Zs];rw[Zl (by omega),Zp (by omega),Qn .i l i h,XQ];simp only[Zb,Zo,hq,QE])
  (fun k=>by
   simp only[n180_0,w180_0,Zs];rw[Zx (by omega)];rfl) fuel 0 (by omega) (by have:=ZZ;omega)
 unfold r180 m180 L180_0;simp only[Zs];simp only[Int.natCast_zero,List.drop_zero]at key;rw[key];unfold YP;cases l.all (inR 0 63)<;>rfl
def XH (l:List Int):Bool:=leI (l.length:Int) 20&&YP 0 255 l
theorem Zby (l:List Int) (hl:l.length≤4611686018427387904):r58 (l,())=some ((XH l,()),()):=by
 unfold r58 m58;simp only[Zco l hl,Zo,Zs,Q7];rfl
theorem ZbO (l:List Int) (hl:l.length≤4611686018427387904):r88 (l,())=some ((XH l,()),()):=by
 have key:=Kv (fun k i=>n88_0 r93 k (l,()) () ((i:Int),())) l (inR 0 255) (Sum.inl ((l.length:Int),()),()) (Sum.inr (false,()),())
  (fun k i h hq=>by
   simp only[n88_0,w88_0,Zs];rw[Zl (by omega),Zp (by omega),Qn .i l i h,Vv,Ql (by omega)];simp only[Zb,Zo,hq,ZM,Zd])
  (fun k i h hq=>by
   simp only[n88_0,w88_0,Zs];rw[Zl (by omega),Zp (by omega),Qn .i l i h,Vv];simp only[Zb,Zo,hq,QE])
  (fun k=>by
   simp only[n88_0,w88_0,Zs];rw[Zx (by omega)];rfl) fuel 0 (by omega) (by have:=ZZ;omega)
 unfold r88 m88 L88_0;simp only[Zs];simp only[Int.natCast_zero,List.drop_zero]at key;rw[key];unfold XH YP;cases l.all (inR 0 255)<;>simp[ZE]
def KZ (l:List Int):Bool:=eqI (l.length:Int) 256&&YP 0 255 l
def V5 (f:List (List Int)):Bool:=f.all KZ&&inR 1 8 (f.length:Int)
theorem ZgW (f:List (List Int)) (hf:small f):r112 ((f,()),())=some ((V5 f,()),()):=by
 have h0:=hf.1;have key:=Kv (fun k i=>n112_0 r113 r64 k (f,((f.length:Int),())) () ((i:Int),())) f KZ (Sum.inl ((f.length:Int),()),()) (Sum.inr (false,()),())
  (fun k i h hq=>by
   have hl:=hf.2.1 _ (List.getElem_mem h);simp only[KZ,Bool.and_eq_true]at hq;simp only[n112_0,w112_0,Zs];rw[Zl (by omega),Zp (by omega),Qn .n f i h,Zco _ (by omega),Ql (by omega)];have h1:(f[i].length:Int)=256:=by simpa [Qo] using hq.1
   rw[Ja h1];simp only[Zb,Zo,hq.2,ZM,Zd])
  (fun k i h hq=>by
   have hl:=hf.2.1 _ (List.getElem_mem h);simp only[n112_0,w112_0,Zs];rw[Zl (by omega),Zp (by omega),Qn .n f i h,Zco _ (by omega)];by_cases h1:(f[i].length:Int)=256
   ·rw[Ja h1];simp only[KZ,Zn h1,Bool.true_and]at hq;simp only[Zb,Zo,hq,QE,Zd]
   ·rw[QS h1];simp only[Zb])
  (fun k=>by
   simp only[n112_0,w112_0,Zs];rw[Zx (by omega)];rfl) fuel 0 (by omega) (by have:=ZZ;omega)
 unfold r112 m112 L112_0;simp only[Zs];simp only[Int.natCast_zero,List.drop_zero]at key;rw[key];unfold V5;cases f.all KZ<;>simp[ZE,XQ]
theorem ZdN (f:List (List Int)) (i:Nat) (h:i<f.length) (hl:(f[i].length:Int)=256):
  L148_0 ((i:Int),()) ((f,()),()) ((0:Int),())=some (if f[i].all (inR 0 255)then (Sum.inl ((256:Int),()),((f,()),()))else (Sum.inr (false,()),((f,()),()))):=by
 have key:=Kv (fun k j=>n148_0 r41 k ((i:Int),()) ((f,()),()) ((j:Int),())) f[i] (inR 0 255) (Sum.inl ((256:Int),()),((f,()),())) (Sum.inr (false,()),((f,()),()))
  (fun k j hj hq=>by
   simp only[n148_0,w148_0,Zs];rw[Qn .n f i h,Zl (show (j:Int)<256 by omega),Zp (show (0:Int)≤(i:Int) by omega),Zl (show (i:Int)< (f.length:Int) by omega),Zp (show (0:Int)≤(j:Int) by omega),Zl (by omega),Ql (by omega),
    show rdI f[i] (j:Int)=f[i][j] by simp[rdI,List.getD,hj],JV]
   simp only[Zb,Zo,hq,ZM,Zd])
  (fun k j hj hq=>by
   simp only[n148_0,w148_0,Zs];rw[Qn .n f i h,Zl (show (j:Int)<256 by omega),Zp (show (0:Int)≤(i:Int) by omega),Zl (show (i:Int)< (f.length:Int) by omega),Zp (show (0:Int)≤(j:Int) by omega),Zl (by omega),
    show rdI f[i] (j:Int)=f[i][j] by simp[rdI,List.getD,hj],JV]
   simp only[Zb,Zo,hq,QE])
  (fun k=>by
   simp only[n148_0,w148_0,Zs];rw[Zx (by omega)];simp only[Zd,hl]) fuel 0 (by omega) (by have:=ZZ;omega)
 exact key
theorem Zg6 (f:List (List Int)) (hf:small f):r148 ((f,()),())=some ((V5 f,()),()):=by
 have h0:=hf.1;have key:=Kv (fun k i=>n148_1 r41 L148_0 k () ((f,()),()) ((i:Int),())) f KZ (Sum.inl ((f.length:Int),()),((f,()),())) (Sum.inr (false,()),((f,()),()))
  (fun k i h hq=>by
   simp only[KZ,Bool.and_eq_true,YP]at hq;have h1:(f[i].length:Int)=256:=by simpa [Qo] using hq.1
   simp only[n148_1,w148_1,Zs];rw[Zl (by omega),Zp (by omega),Qn .n f i h,Ql (by omega),Ja h1,ZdN f i h h1,hq.2];simp only[Zb,Zd,Zo,if_true,ZE])
  (fun k i h hq=>by
   simp only[n148_1,w148_1,Zs];rw[Zl (by omega),Zp (by omega),Qn .n f i h];by_cases h1:(f[i].length:Int)=256
   ·rw[Ja h1,ZdN f i h h1];simp only[KZ,Zn h1,Bool.true_and,YP]at hq;rw[hq];simp only[Zb,Zd,Zo,ZE,Bool.false_eq_true,if_false]
   ·rw[QS h1];simp only[Zb])
  (fun k=>by
   simp only[n148_1,w148_1,Zs];rw[Zx (by omega)];rfl) fuel 0 (by omega) (by have:=ZZ;omega)
 unfold r148 m148 L148_1;simp only[Zs];simp only[Int.natCast_zero,List.drop_zero]at key;rw[key];unfold V5;cases f.all KZ<;>simp[ZE,JV]
def Y7 (f:List (List Int)) (x:Tup Kh):Bool:=V5 f&&(eqI (x.1.length:Int) 512&&(YP 0 255 x.1&&inR 0 ((f.length:Int)-1) x.2.1))
theorem ZaX (f:List (List Int)) (x:Tup Kh) (hf:small f) (hx:x.1.length≤4398046511104):r57 ((f,()),(x,()))=some ((Y7 f x,()),()):=by
 unfold r57 m57;have:=hf.1;simp only[ZgW f hf,Zco x.1 (by omega),XQ,Zo,Zs,Q7];rw[Zr (by omega) (by omega)];rfl
theorem Za6 (f:List (List Int)) (x:Tup Kh) (hf:small f) (hx:x.1.length≤4398046511104):r89 ((f,()),(x,()))=some ((Y7 f x,()),()):=by
 unfold r89 m89;have:=hf.1;simp only[Zg6 f hf,JV,Zo,Zs];rw[Zr (by omega) (by omega)];unfold Y7;cases V5 f with
 |false=>rfl
 |true=>
  simp only[ZM,Zd,Bool.true_and];by_cases h1:(x.1.length:Int)=512
  ·rw[Ja h1,Zn h1];simp only[Zd,Bool.true_and];cases h2:inR 0 ((f.length:Int)-1) x.2.1 with
   |false=>simp
   |true=>
    have key:=Kv (fun k i=>n89_0 r148 r41 r93 k () (x,()) ((i:Int),())) x.1 (inR 0 255) (Sum.inl ((512:Int),()),(x,())) (Sum.inr (false,()),(x,()))
     (fun k i h hq=>by
      simp only[n89_0,w89_0,Zs];rw[Zl (show (i:Int)<512 by omega),Zp (by omega),Zl (by omega),Qn .i x.1 i h,Vv,Ql (by omega)];simp only[Zb,Zo,hq,ZM,Zd])
     (fun k i h hq=>by
      simp only[n89_0,w89_0,Zs];rw[Zl (show (i:Int)<512 by omega),Zp (by omega),Zl (by omega),Qn .i x.1 i h,Vv];simp only[Zb,Zo,hq,QE])
     (fun k=>by
      simp only[n89_0,w89_0,Zs];rw[Zx (by omega)];simp only[Zd,h1]) fuel 0 (by omega) (by have:=ZZ;omega)
    unfold L89_0;simp only[Int.natCast_zero,List.drop_zero]at key;simp only[ZM,Zd];rw[key];unfold YP;cases x.1.all (inR 0 255)<;>simp[ZE]
  ·rw[QS h1,Zi h1];rfl
def Yq (c:Tup Xm):Bool:=inR 0 255 c.1&&(inR 0 255 c.2.1&&(inR 0 255 c.2.2.1&&inR 0 65535 c.2.2.2.1))
theorem Zb3 (c:Tup Xm):r59 (c,())=some ((Yq c,()),()):=by
 unfold r59 m59;simp only[WK,XQ,Zo,Q7];rfl
theorem Zcf (c:Tup Xm):r90 (c,())=some ((Yq c,()),()):=by
 unfold r90 m90;simp only[Vv,JV,Zo,Q7];rfl
def Xh (a:Tup KX):Bool:=inR 0 20000 a.1&&(inR 0 255 a.2.1&&(inR 0 255 a.2.2.1&&(inR 0 1 a.2.2.2.1&&inR 0 31 a.2.2.2.2.1)))
theorem ZaW (a:Tup KX):r117 (a,())=some ((Xh a,()),()):=by
 unfold r117 m117;simp only[Zdr,WK,XQ,Zo,Q7];rfl
theorem Za5 (a:Tup KX):r152 (a,())=some ((Xh a,()),()):=by
 unfold r152 m152;simp only[Vv,JV,Zo,Q7];rfl
def WD (t:Int):Int:=if 48<Int.tmod t 64 then 0 else Int.tmod t 64
def ZjB (p:Tup Yb):Bool:=inR 0 20000 p.1&&(inR 0 255 p.2.1&&(inR 0 255 p.2.2.1&&(inR 0 15 p.2.2.2.1&&inR 0 63 p.2.2.2.2.1)))
def Zgh (p:Tup Yb):Bool:=eqI (p.2.2.2.2.2.2.1.length:Int) 16&&(YP 0 63 p.2.2.2.2.2.2.1&&(eqI (p.2.2.2.2.2.2.2.1.length:Int) (WD p.1)&&YP 0 63 p.2.2.2.2.2.2.2.1))
def YV (p:Tup Yb):Bool:=ZjB p&&Zgh p
theorem ZeK (p:Tup Yb) (h:VG p):r114 (p,())=some ((YV p,()),()):=by
 unfold r114 m114;obtain ⟨h1,h2⟩:=h;have hd:r180 p.2.2.2.2.2.2.2=some ((YP 0 63 p.2.2.2.2.2.2.2.1,()),()):=Zfr p.2.2.2.2.2.2.2.1 (by omega);simp only[Zdr,WK,XQ,Zfr p.2.2.2.2.2.2.1 (by omega),hd,Zs,Zo];unfold YV ZjB Zgh WD;by_cases h48:48<Int.tmod p.1 64
 ·rw[Zl h48,Ze h48];simp only[Zb,Q7,Ur,Bool.and_assoc]
 ·rw[Zx h48,Zc h48];simp only[Zd,Q7,Ur,Bool.and_assoc]
theorem ZjT (p:Tup Yb) (h16:(p.2.2.2.2.2.2.1.length:Int)=16):
  L149_1 () (p,()) ((0:Int),())=some (if p.2.2.2.2.2.2.1.all (inR 0 63)then (Sum.inl ((16:Int),()),(p,()))else (Sum.inr (false,()),(p,()))):=by
 have key:=Kv (fun k i=>n149_1 r41 r93 r218 L149_0 k () (p,()) ((i:Int),())) p.2.2.2.2.2.2.1 (inR 0 63) (Sum.inl ((16:Int),()),(p,())) (Sum.inr (false,()),(p,()))
  (fun k i h hq=>by
   simp only[n149_1,w149_1,Zs];rw[Zl (show (i:Int)<16 by omega),Zp (by omega),Zl (by omega),Qn .i p.2.2.2.2.2.2.1 i h,JV,Ql (by omega)];simp only[Zb,Zo,hq,ZM,Zd])
  (fun k i h hq=>by
   simp only[n149_1,w149_1,Zs];rw[Zl (show (i:Int)<16 by omega),Zp (by omega),Zl (by omega),Qn .i p.2.2.2.2.2.2.1 i h,JV];simp only[Zb,Zo,hq,QE])
  (fun k=>by
   simp only[n149_1,w149_1,Zs];rw[Zx (by omega)];simp only[Zd,h16]) fuel 0 (by omega) (by have:=ZZ;omega)
 exact key
theorem ZkO (p:Tup Yb) (hl:p.2.2.2.2.2.2.2.1.length≤4398046511104):
  L149_0 () (p,()) ((0:Int),())=some (if p.2.2.2.2.2.2.2.1.all (inR 0 63)then (Sum.inl ((p.2.2.2.2.2.2.2.1.length:Int),()),(p,()))else (Sum.inr (false,()),(p,()))):=by
 have key:=Kv (fun k i=>n149_0 r41 r93 r218 k () (p,()) ((i:Int),())) p.2.2.2.2.2.2.2.1 (inR 0 63) (Sum.inl ((p.2.2.2.2.2.2.2.1.length:Int),()),(p,())) (Sum.inr (false,()),(p,()))
  (fun k i h hq=>by
   simp only[n149_0,w149_0,Zs];rw[Zl (show (i:Int)<_ by omega),Zp (by omega),Qn .i p.2.2.2.2.2.2.2.1 i h,JV,Ql (by omega)];simp only[Zb,Zo,hq,ZM,Zd])
  (fun k i h hq=>by
   simp only[n149_0,w149_0,Zs];rw[Zl (show (i:Int)<_ by omega),Zp (by omega),Qn .i p.2.2.2.2.2.2.2.1 i h,JV];simp only[Zb,Zo,hq,QE])
  (fun k=>by
   simp only[n149_0,w149_0,Zs];rw[Zx (by omega)];rfl) fuel 0 (by omega) (by have:=ZZ;omega)
 exact key
theorem Za8 (p:Tup Yb) (h:VG p):r149 (p,())=some ((YV p,()),()):=by
 unfold r149 m149;obtain ⟨h1,h2⟩:=h;have hd:r218 (p.1,())=some ((WD p.1,()),()):=by
  unfold r218 m218 WD;by_cases h48:48<Int.tmod p.1 64
  ·simp only[Zl h48,Zb,h48,if_true]
  ·simp only[Zx h48,Zd,h48,if_false]
 have hrest:(bif neI (p.2.2.2.2.2.2.1.length:Int) 16 then some ((false,()),())else
   bif neI (p.2.2.2.2.2.2.2.1.length:Int) (WD p.1)then some ((false,()),())
   else (L149_1 () (p,()) ((0:Int),())).bind fun r6=>ZE r6.1 (fun r7=>(L149_0 () ((r6.2.1.1,(r6.2.1.2.1,(r6.2.1.2.2.1,(r6.2.1.2.2.2.1,(r6.2.1.2.2.2.2.1,(r6.2.1.2.2.2.2.2.1,p.2.2.2.2.2.2)))))),()) ((0:Int),())).bind fun r8=>
    ZE r8.1 (fun r9=>some ((true,()),())) (fun r9=>some (r9,()))) (fun r7=>some (r7,())))=some ((Zgh p,()),()):=by
  unfold Zgh;by_cases h16:(p.2.2.2.2.2.2.1.length:Int)=16
  ·rw[Ja h16,Zn h16,Zd];by_cases hdn:(p.2.2.2.2.2.2.2.1.length:Int)=WD p.1
   ·rw[Ja hdn,Zn hdn,Zd,ZjT p h16];unfold YP;cases p.2.2.2.2.2.2.1.all (inR 0 63)with
    |false=>rfl
    |true=>
     simp only[if_true,Zo,ZE];rw[show ((p.1,(p.2.1,(p.2.2.1,(p.2.2.2.1,(p.2.2.2.2.1,(p.2.2.2.2.2.1,p.2.2.2.2.2.2)))))):Tup Yb)=p from rfl,ZkO p h2];cases p.2.2.2.2.2.2.2.1.all (inR 0 63)<;>rfl
   ·rw[QS hdn,Zi hdn,Zb];simp
  ·rw[QS h16,Zi h16,Zb];rfl
 simp only[JV,Vv,hd,Zs,Zo];rw[hrest];simp only[Ur];unfold YV ZjB;simp only[Bool.and_assoc]
abbrev Yh:List LT:=[.int .i64, .sl false .t]
def Ve (l:List (Int×Int×Int)) (i:Nat):Bool:=inR 0 20000 (rdE .t l (i:Int)).1&&(inR 0 7 (rdE .t l (i:Int)).2.1&&(inR 0 255 (rdE .t l (i:Int)).2.2&&(decide (i=0)|| !ltI (rdE .t l (i:Int)).1 (rdE .t l ((i-1:Nat):Int)).1)))
def XJ (r:Tup Yh):Bool:=(List.range' 0 r.2.1.length).all (Ve r.2.1)&&(inR 1 16 r.1&&leI (r.2.1.length:Int) r.1)
theorem ZiI {i:Nat} (h:i≠0) (h2:i<9223372036854775807):wI ((i:Int)-1)=((i-1:Nat):Int):=by
 rw[Zr (by omega) (by omega)];omega
theorem ZcM (r:Tup Yh) (hl:r.2.1.length≤4398046511104) (k i:Nat) (h:i<r.2.1.length):
  n110_0 r62 r63 r64 (k+1) (r.2.1,((r.2.1.length:Int),())) (r,()) ((i:Int),())=
   bif Ve r.2.1 i then n110_0 r62 r63 r64 k (r.2.1,((r.2.1.length:Int),())) (r,()) (((i+1:Nat):Int),())else some (Sum.inr (false,()),(r,())):=by
 simp only[n110_0,w110_0,Zs];rw[Zl (show (i:Int)<_ by omega),Zp (show (0:Int)≤(i:Int) by omega),Ql (by omega)];simp only[Zb,Zdr,XQ,WK,Zo];unfold Ve;generalize inR 0 20000 (rdE .t r.2.1 (i:Int)).1=x1;generalize inR 0 7 (rdE .t r.2.1 (i:Int)).2.1=x2;generalize inR 0 255 (rdE .t r.2.1 (i:Int)).2.2=x3;by_cases h0:i=0
 ·subst h0;rw[Zx (by omega)];cases x1<;>cases x2<;>cases x3<;>rfl
 ·rw[Zl (by omega),ZiI h0 (by omega),Zp (by omega),Zl (by omega),Zw h0];generalize ltI (rdE .t r.2.1 (i:Int)).1 (rdE .t r.2.1 ((i-1:Nat):Int)).1=x4;cases x1<;>cases x2<;>cases x3<;>cases x4<;>rfl
theorem Zdp (r:Tup Yh) (hl:r.2.1.length≤4398046511104):r110 (r,())=some ((XJ r,()),()):=by
 have key:=ZbZ (fun k i=>n110_0 r62 r63 r64 k (r.2.1,((r.2.1.length:Int),())) (r,()) ((i:Int),())) r.2.1.length (Ve r.2.1) (Sum.inl ((r.2.1.length:Int),()),(r,())) (Sum.inr (false,()),(r,()))
  (fun k i h hq=>by simp only[ZcM r hl k i h,hq,Zb])
  (fun k i h hq=>by simp only[ZcM r hl k i h,hq,Zd])
  (fun k=>by
   simp only[n110_0,w110_0,Zs];rw[Zx (by omega)];rfl) fuel 0 (by omega) (by have:=ZZ;omega)
 unfold r110 m110 L110_0;simp only[Zs];simp only[Int.natCast_zero,Nat.sub_zero]at key;rw[key];unfold XJ;cases (List.range' 0 r.2.1.length).all (Ve r.2.1)with
 |false=>rfl
 |true=>simp only[if_true,Zo,ZE,XQ,Q7,Bool.true_and]
theorem ZcT (r:Tup Yh) (hl:r.2.1.length≤4398046511104) (k i:Nat) (h:i<r.2.1.length):
  n150_0 r41 r93 (k+1) () (r,()) ((i:Int),())=
   bif Ve r.2.1 i then n150_0 r41 r93 k () (r,()) (((i+1:Nat):Int),())else some (Sum.inr (false,()),(r,())):=by
 simp only[n150_0,w150_0,Zs];rw[Zl (show (i:Int)<_ by omega),Zp (show (0:Int)≤(i:Int) by omega),Ql (by omega)];simp only[Zb,JV,Vv,Zo];unfold Ve;generalize inR 0 20000 (rdE .t r.2.1 (i:Int)).1=x1;generalize inR 0 7 (rdE .t r.2.1 (i:Int)).2.1=x2;generalize inR 0 255 (rdE .t r.2.1 (i:Int)).2.2=x3;by_cases h0:i=0
 ·subst h0;rw[Zx (by omega)];cases x1<;>cases x2<;>cases x3<;>rfl
 ·rw[Zl (by omega),ZiI h0 (by omega),Zp (by omega),Zl (by omega),Zw h0];generalize ltI (rdE .t r.2.1 (i:Int)).1 (rdE .t r.2.1 ((i-1:Nat):Int)).1=x4;cases x1<;>cases x2<;>cases x3<;>cases x4<;>rfl
theorem ZdQ (r:Tup Yh) (hl:r.2.1.length≤4398046511104):r150 (r,())=some ((XJ r,()),()):=by
 have key:=ZbZ (fun k i=>n150_0 r41 r93 k () (r,()) ((i:Int),())) r.2.1.length (Ve r.2.1) (Sum.inl ((r.2.1.length:Int),()),(r,())) (Sum.inr (false,()),(r,()))
  (fun k i h hq=>by simp only[ZcT r hl k i h,hq,Zb])
  (fun k i h hq=>by simp only[ZcT r hl k i h,hq,Zd])
  (fun k=>by
   simp only[n150_0,w150_0,Zs];rw[Zx (by omega)];rfl) fuel 0 (by omega) (by have:=ZZ;omega)
 unfold r150 m150 L150_0;simp only[Zs];simp only[Int.natCast_zero,Nat.sub_zero]at key;rw[key];unfold XJ;cases (List.range' 0 r.2.1.length).all (Ve r.2.1)with
 |false=>rfl
 |true=>simp only[if_true,Zo,ZE,JV,Q7,Bool.true_and]
def W4 (r:Tup Yh) (t:Int):Bool:=if r.2.1.length=0 then true else leI t (rdE .t r.2.1 (0:Int)).1
theorem Zgn (r:Tup Yh) (t:Int) (hl:r.2.1.length≤4398046511104):r115 (r,(t,()))=some ((XJ r&&W4 r t,()),()):=by
 unfold r115 m115;simp only[Zdp r hl,Zo,Zs];unfold W4;cases XJ r with
 |false=>rfl
 |true=>
  by_cases h:r.2.1.length=0
  ·rw[Zn (by omega),Ze h];rfl
  ·rw[Zi (by omega),Zc h,Zl (by omega)];rfl
def Kb (f:List (List Int)) (t:Int):Bool:=f.all (fun l=>eqI (l.length:Int) 48)&&eqI (f.length:Int) (Int.tdiv (t+15) 64)
theorem ZiF {t c d:Int} (h0:0≤t) (h1:t≤20000) (hc:0≤c) (hc2:c≤64) (hd:d=64∨d=16):wI (Int.tdiv (t+c) d)=Int.tdiv (t+c) d:=by
 rw[Int.tdiv_eq_ediv_of_nonneg (by omega)];rcases hd with rfl|rfl<;>exact Zr (by omega) (by omega)
theorem Zb4 (f:List (List Int)) (t:Int) (hf:f.length≤4398046511104) (h0:0≤t) (h1:t≤20000):r116 (f,(t,()))=some ((Kb f t,()),()):=by
 have key:=Kv (fun k i=>n116_0 r181 k (f,((f.length:Int),())) () ((i:Int),())) f (fun l=>eqI (l.length:Int) 48) (Sum.inl ((f.length:Int),()),()) (Sum.inr (false,()),())
  (fun k i h hq=>by
   simp only[n116_0,w116_0,Zs];rw[Zl (by omega),Zp (by omega),Qn .n f i h,Ql (by omega)];have:(f[i].length:Int)=48:=by simpa [Qo] using hq
   rw[Ja this];simp only[Zb,Zd])
  (fun k i h hq=>by
   simp only[n116_0,w116_0,Zs];rw[Zl (by omega),Zp (by omega),Qn .n f i h];have: ¬(f[i].length:Int)=48:=by simpa [Qo] using hq
   rw[QS this];simp only[Zb])
  (fun k=>by
   simp only[n116_0,w116_0,Zs];rw[Zx (by omega)];rfl) fuel 0 (by omega) (by have:=ZZ;omega)
 unfold r116 m116 L116_0;simp only[Zs];simp only[Int.natCast_zero,List.drop_zero]at key;rw[key];unfold Kb;cases f.all (fun l=>eqI (l.length:Int) 48)with
 |false=>rfl
 |true=>
  have hc:r181 (t,((48:Int),((64:Int),())))=some ((Int.tdiv (t+15) 64,()),()):=by
   unfold r181 m181;simp only;rw[QS (by omega),Zr (x:=t+64) (by omega) (by omega),Zr (x:=t+64-1) (by omega) (by omega),Zr (x:=t+64-1-48) (by omega) (by omega),show t+64-1-48=t+15 by omega,ZiF h0 h1 (by omega) (by omega) (.inl rfl)];rfl
  simp only[if_true,Zo,ZE,hc,Bool.true_and]
theorem Zcg (f:List (List Int)) (t:Int) (hf:f.length≤4398046511104) (h0:0≤t) (h1:t≤20000):r151 (f,(t,()))=some ((Kb f t,()),()):=by
 have key:=Kv (fun k i=>n151_0 r219 k (f,()) () ((i:Int),())) f (fun l=>eqI (l.length:Int) 48) (Sum.inl ((f.length:Int),()),()) (Sum.inr (false,()),())
  (fun k i h hq=>by
   simp only[n151_0,w151_0,Zs];rw[Zl (by omega),Zp (by omega),Qn .n f i h,Ql (by omega)];have:(f[i].length:Int)=48:=by simpa [Qo] using hq
   rw[Ja this];simp only[Zb,Zd])
  (fun k i h hq=>by
   simp only[n151_0,w151_0,Zs];rw[Zl (by omega),Zp (by omega),Qn .n f i h];have: ¬(f[i].length:Int)=48:=by simpa [Qo] using hq
   rw[QS this];simp only[Zb])
  (fun k=>by
   simp only[n151_0,w151_0,Zs];rw[Zx (by omega)];rfl) fuel 0 (by omega) (by have:=ZZ;omega)
 unfold r151 m151 L151_0;simp only[Zs];simp only[Int.natCast_zero,List.drop_zero]at key;rw[key];unfold Kb;cases f.all (fun l=>eqI (l.length:Int) 48)with
 |false=>rfl
 |true=>
  have hc:r219 (t,())=some ((Int.tdiv (t+15) 64,()),()):=by
   unfold r219 m219;simp only;rw[Zr (x:=t+64) (by omega) (by omega),Zr (x:=t+64-48) (by omega) (by omega),Zr (x:=t+64-48-1) (by omega) (by omega),show t+64-48-1=t+15 by omega,ZiF h0 h1 (by omega) (by omega) (.inl rfl)]
  simp only[if_true,Zo,ZE,hc,Bool.true_and]
def W6 (s:List Int) (t:Int):Bool:=eqI (s.length:Int) (Int.tdiv t 16)
theorem ZbV (s:List Int) (t:Int) (h0:0≤t) (h1:t≤20000):r118 (s,(t,()))=some ((W6 s t,()),()):=by
 unfold r118 m118 r181 m181;simp only;rw[QS (by omega),Zr (x:=t+16) (by omega) (by omega),Zr (x:=t+16-1) (by omega) (by omega),Zr (x:=t+16-1-15) (by omega) (by omega),show t+16-1-15=t+0 by omega,ZiF h0 h1 (by omega) (by omega) (.inr rfl),Int.add_zero];rfl
abbrev VE:List LT:=Yb++(Yh++[.sl false .n])
abbrev VN:List LT:=KX++(Yh++[.sl false .i])
abbrev WV (w:Tup VE):Tup Yb:=(w.1,(w.2.1,(w.2.2.1,(w.2.2.2.1,(w.2.2.2.2.1,(w.2.2.2.2.2.1,(w.2.2.2.2.2.2.1,(w.2.2.2.2.2.2.2.1,()))))))))
abbrev Kl (w:Tup VE):Tup Yh:=(w.2.2.2.2.2.2.2.2.1,(w.2.2.2.2.2.2.2.2.2.1,()))
abbrev Zol (w:Tup VN):Tup KX:=(w.1,(w.2.1,(w.2.2.1,(w.2.2.2.1,(w.2.2.2.2.1,(w.2.2.2.2.2.1,(w.2.2.2.2.2.2.1,())))))))
abbrev Kp (w:Tup VN):Tup Yh:=(w.2.2.2.2.2.2.2.1,(w.2.2.2.2.2.2.2.2.1,()))
def Zjw (w:Tup VE):Prop:=VG (WV w)∧(Kl w).2.1.length≤4398046511104∧small w.2.2.2.2.2.2.2.2.2.2.1
def ZjN (w:Tup VN):Prop:=(Kp w).2.1.length≤4398046511104∧w.2.2.2.2.2.2.2.2.2.1.length≤4398046511104
def VF (w:Tup VE):Bool:=YV (WV w)&&(XJ (Kl w)&&(W4 (Kl w) w.1&&Kb w.2.2.2.2.2.2.2.2.2.2.1 w.1))
def VO (w:Tup VN):Bool:=Xh (Zol w)&&(XJ (Kp w)&&(W4 (Kp w) w.1&&W6 w.2.2.2.2.2.2.2.2.2.1 w.1))
theorem Zn6 {p:Tup Yb} (h:YV p=true):0≤p.1∧p.1≤20000:=by
 simp only[YV,ZjB,Bool.and_eq_true]at h;exact JE.1 h.1.1
theorem ZmY {p:Tup KX} (h:Xh p=true):0≤p.1∧p.1≤20000:=by
 simp only[Xh,Bool.and_eq_true]at h;exact JE.1 h.1
theorem ZeW (w:Tup VE) (h:Zjw w):r60 (w,())=some ((VF w,()),()):=by
 unfold r60 m60 VF;obtain ⟨h1,h2,h3⟩:=h;simp only[ZeK (WV w) h1,Zgn (Kl w) w.1 h2,Zo];cases e:YV (WV w)with
 |false=>rfl
 |true=>
  obtain ⟨t0,t1⟩:=Zn6 e;simp only[Zb4 w.2.2.2.2.2.2.2.2.2.2.1 w.1 h3.1 t0 t1,Zo,Zb,Q7,Bool.and_assoc,Bool.true_and]
theorem ZbY (w:Tup VE) (h:Zjw w):r91 (w,())=some ((VF w,()),()):=by
 unfold r91 m91 VF;obtain ⟨h1,h2,h3⟩:=h;simp only[Za8 (WV w) h1,ZdQ (Kl w) h2,Zo,Zs];cases e:YV (WV w)with
 |false=>rfl
 |true=>
  obtain ⟨t0,t1⟩:=Zn6 e;simp only[Zcg w.2.2.2.2.2.2.2.2.2.2.1 w.1 h3.1 t0 t1,Zo,ZM,Zd,Bool.true_and];unfold W4;cases XJ (Kl w)with
  |false=>rfl
  |true=>
   by_cases hz:(Kl w).2.1.length=0
   ·rw[Zn (by have:w.2.2.2.2.2.2.2.2.2.1.length=0:=hz;omega),Ze hz];simp
   ·rw[Zi (by have: ¬w.2.2.2.2.2.2.2.2.2.1.length=0:=hz;omega),Zc hz,Zl (by have: ¬w.2.2.2.2.2.2.2.2.2.1.length=0:=hz;omega)];simp only[Q7,ZM,Zd,Zb,Bool.true_and]
theorem ZgZ (w:Tup VN) (h:ZjN w):r61 (w,())=some ((VO w,()),()):=by
 unfold r61 m61 VO;obtain ⟨h1,h2⟩:=h;simp only[ZaW (Zol w),Zgn (Kp w) w.1 h1,Zo];cases e:Xh (Zol w)with
 |false=>rfl
 |true=>
  obtain ⟨t0,t1⟩:=ZmY e;simp only[ZbV w.2.2.2.2.2.2.2.2.2.1 w.1 t0 t1,Zo,Zb,Q7,Bool.and_assoc,Bool.true_and]
theorem ZcU (w:Tup VN) (h:ZjN w):r92 (w,())=some ((VO w,()),()):=by
 unfold r92 m92 VO;obtain ⟨h1,h2⟩:=h;simp only[Za5 (Zol w),ZdQ (Kp w) h1,Zo,Zs];cases e:Xh (Zol w)with
 |false=>rfl
 |true=>
  obtain ⟨t0,t1⟩:=ZmY e;have et:wI (Int.tdiv w.1 16)=Int.tdiv w.1 16:=by
   have:=ZiF (c:=0) t0 t1 (by omega) (by omega) (.inr rfl:(16:Int)=64∨(16:Int)=16);simpa using this
  rw[et];unfold W4 W6;cases XJ (Kp w)with
  |false=>rfl
  |true=>
   by_cases hz:(Kp w).2.1.length=0
   ·rw[Zn (show (w.2.2.2.2.2.2.2.2.1.length:Int)=0 by have:w.2.2.2.2.2.2.2.2.1.length=0:=hz;omega),Ze hz];simp
   ·rw[Zi (show¬(w.2.2.2.2.2.2.2.2.1.length:Int)=0 by have: ¬w.2.2.2.2.2.2.2.2.1.length=0:=hz;omega),Zc hz,Zl (by have: ¬w.2.2.2.2.2.2.2.2.1.length=0:=hz;omega)];simp only[Q7,ZM,Zd,Zb,Bool.true_and]
abbrev QM:List LT:= .sl false .n:: .sl false .i::(Kh++(Xm++(UM++(.int .i64:: .bool:: .int .i64:: .bool:: .int .i64:: .int .i64:: .sl false .i::(VE++VN)))))
section
variable (s:Tup QM)
abbrev Wn:List (List Int):=s.1
abbrev Wo:List Int:=s.2.1
abbrev VP:Tup Kh:=(s.2.2.1,(s.2.2.2.1,()))
abbrev Kq:Tup Xm:=(s.2.2.2.2.1,(s.2.2.2.2.2.1,(s.2.2.2.2.2.2.1,(s.2.2.2.2.2.2.2.1,(s.2.2.2.2.2.2.2.2.1,(s.2.2.2.2.2.2.2.2.2.1,(s.2.2.2.2.2.2.2.2.2.2.1,(s.2.2.2.2.2.2.2.2.2.2.2.1,()))))))))
abbrev ZrW:Tup UM:=(s.2.2.2.2.2.2.2.2.2.2.2.2.1,(s.2.2.2.2.2.2.2.2.2.2.2.2.2.1,()))
abbrev Zq6:Int:=s.2.2.2.2.2.2.2.2.2.2.2.2.2.1
abbrev spT:Int:=s.2.2.2.2.2.2.2.2.2.2.2.2.2.2.1
abbrev Zsz:Bool:=s.2.2.2.2.2.2.2.2.2.2.2.2.2.2.2.1
abbrev ZrV:Int:=s.2.2.2.2.2.2.2.2.2.2.2.2.2.2.2.2.1
abbrev Zoq:Int:=s.2.2.2.2.2.2.2.2.2.2.2.2.2.2.2.2.2.2.1
abbrev Zos:Int:=s.2.2.2.2.2.2.2.2.2.2.2.2.2.2.2.2.2.2.2.1
abbrev Zgv:List Int:=s.2.2.2.2.2.2.2.2.2.2.2.2.2.2.2.2.2.2.2.2.1
abbrev Jw:Tup VE:=(s.2.2.2.2.2.2.2.2.2.2.2.2.2.2.2.2.2.2.2.2.2.1,(s.2.2.2.2.2.2.2.2.2.2.2.2.2.2.2.2.2.2.2.2.2.2.1,(s.2.2.2.2.2.2.2.2.2.2.2.2.2.2.2.2.2.2.2.2.2.2.2.1,(s.2.2.2.2.2.2.2.2.2.2.2.2.2.2.2.2.2.2.2.2.2.2.2.2.1,(s.2.2.2.2.2.2.2.2.2.2.2.2.2.2.2.2.2.2.2.2.2.2.2.2.2.1,(s.2.2.2.2.2.2.2.2.2.2.2.2.2.2.2.2.2.2.2.2.2.2.2.2.2.2.1,(s.2.2.2.2.2.2.2.2.2.2.2.2.2.2.2.2.2.2.2.2.2.2.2.2.2.2.2.1,(s.2.2.2.2.2.2.2.2.2.2.2.2.2.2.2.2.2.2.2.2.2.2.2.2.2.2.2.2.1,(s.2.2.2.2.2.2.2.2.2.2.2.2.2.2.2.2.2.2.2.2.2.2.2.2.2.2.2.2.2.1,(s.2.2.2.2.2.2.2.2.2.2.2.2.2.2.2.2.2.2.2.2.2.2.2.2.2.2.2.2.2.2.1,(s.2.2.2.2.2.2.2.2.2.2.2.2.2.2.2.2.2.2.2.2.2.2.2.2.2.2.2.2.2.2.2.1,())))))))))))
abbrev JP:Tup VN:=s.2.2.2.2.2.2.2.2.2.2.2.2.2.2.2.2.2.2.2.2.2.2.2.2.2.2.2.2.2.2.2.2
end
theorem Zku (a b:Int):ltI a b= !leI b a:=by
 by_cases h:a<b
 ·rw[Zl h,JG (by omega)];rfl
 ·rw[Zx h,Zp (by omega)];rfl
def VJ (r:Tup Yh) (t:Int):Bool:=if r.2.1.length=0 then true else leI (rdE .t r.2.1 ((r.2.1.length-1:Nat):Int)).1 t
theorem Zgo (r:Tup Yh) (t:Int) (hl:r.2.1.length≤4398046511104):r65 (r,(t,()))=some ((VJ r t,()),()):=by
 unfold r65 m65 VJ;simp only[Zs];by_cases h:r.2.1.length=0
 ·rw[Zn (by omega),Ze h];rfl
 ·rw[Zi (by omega),Zc h,ZiI h (by omega),Zp (by omega),Zl (by omega)];rfl
def Zpq (r:Tup Yh):Int:=if r.2.1.length=0 then 0 else (rdE .t r.2.1 ((r.2.1.length-1:Nat):Int)).1
theorem Zhv (r:Tup Yh) (hl:r.2.1.length≤4398046511104):r94 (r,())=some ((Zpq r,()),()):=by
 unfold r94 m94 Zpq;simp only[Zs];by_cases h:r.2.1.length=0
 ·rw[Zn (by omega),Ze h];rfl
 ·rw[Zi (by omega),Zc h,ZiI h (by omega),Zp (by omega),Zl (by omega)];rfl
theorem Zlk (r:Tup Yh) (t:Int) (h:0≤t):leI (Zpq r) t=VJ r t:=by
 unfold Zpq VJ;split
 ·rw[Zp h]
 ·rfl
def ZU (s:Tup QM):Prop:=small (Wn s)∧(Wo s).length≤4398046511104∧(VP s).1.length≤4398046511104∧(Zgv s).length≤4398046511104∧Zjw (Jw s)∧ZjN (JP s)
def Zfb (s:Tup QM):Bool:=inR 0 255 (Zq6 s)&&(inR 0 255 (ZrV s)&&(inR 0 20000 (spT s)&&(inR 0 (spT s) (Zoq s)&&inR 0 (spT s) (Zos s))))
def Zbq (s:Tup QM):Bool:=Y7 (Wn s) (VP s)&&(XH (Wo s)&&(Yq (Kq s)&&(VF (Jw s)&&VO (JP s))))
def Zfa (s:Tup QM):Bool:=leI (Jw s).1 (spT s)&&(leI (JP s).1 (spT s)&&(VJ (Kl (Jw s)) (spT s)&&VJ (Kp (JP s)) (spT s)))
def Qb (s:Tup QM):Bool:=Zbq s&&(Zfb s&&Zfa s)
theorem Vt (s:Tup QM) (h:ZU s):r24 (s,())=some ((Qb s,()),()):=by
 unfold r24 m24;obtain ⟨h1,h2,h3,_,h5,h6⟩:=h;simp only[ZaX (Wn s) (VP s) h1 h3,Zby (Wo s) (by omega),Zb3 (Kq s),ZeW (Jw s) h5,ZgZ (JP s) h6,WK,Zdr,XQ,
  Zgo (Kl (Jw s)) _ h5.2.1,Zgo (Kp (JP s)) _ h6.1,Zo]
 unfold Qb Zbq Zfb Zfa;generalize Y7 (Wn s) (VP s)=x0;generalize XH (Wo s)=x1;generalize Yq (Kq s)=x2;generalize VF (Jw s)=x3;generalize VO (JP s)=x4;generalize VJ (Kl (Jw s)) (spT s)=x5;generalize VJ (Kp (JP s)) (spT s)=x6;cases x0<;>cases x1<;>cases x2<;>cases x3<;>cases x4<;>first| (simp[Q7];done)| (simp[Q7,Bool.and_assoc];done)
theorem Vf (s:Tup QM) (h:ZU s):r36 (s,())=some ((Qb s,()),()):=by
 unfold r36 m36;obtain ⟨h1,h2,h3,_,h5,h6⟩:=h;simp only[Za6 (Wn s) (VP s) h1 h3,ZbO (Wo s) (by omega),Zcf (Kq s),ZbY (Jw s) h5,ZcU (JP s) h6,Vv,JV,
  Zhv (Kl (Jw s)) h5.2.1,Zhv (Kp (JP s)) h6.1,Zo]
 unfold Qb Zbq Zfb Zfa;generalize Y7 (Wn s) (VP s)=x0;generalize XH (Wo s)=x1;generalize Yq (Kq s)=x2;generalize VF (Jw s)=x3;generalize VO (JP s)=x4;cases hT:inR 0 20000 (spT s)with
 |false=>cases x0<;>cases x1<;>cases x2<;>cases x3<;>cases x4<;>simp[Ur]
 |true=>
  have t0:=(JE.1 hT).1;rw[Zlk _ _ t0,Zlk _ _ t0];have e1:ltI (spT s) (Jw s).1= !leI (Jw s).1 (spT s):=Zku _ _;have e2:ltI (spT s) (JP s).1= !leI (JP s).1 (spT s):=Zku _ _;rw[e1,e2];cases x0<;>cases x1<;>cases x2<;>cases x3<;>cases x4<;>first| (simp[Ur,Q7];done)| (simp[Ur,Q7,Bool.and_assoc];done)| (simp[Ur,Q7,Bool.and_assoc];rfl)
theorem Xl (l:List Int) (h:l.length≤4398046511104):r52 (l,())=some ((l,()),()):=by
 unfold r52 m52;rw[ZI (by simp only[E.most];omega)];rfl
theorem ZaT (f:List (List Int)) (h:small f):r51 ((f,()),())=some (((f,()),()),()):=by
 have h0:=h.1;have key:=Zah (fun k i out=>n51_0 r52 k (f,((f.length:Int),())) ((out,()),()) ((i:Int),())) f (fun out=>(Sum.inl ((f.length:Int),()),((out,()),())))
  (fun k i out hi ho=>by
   simp only[n51_0,w51_0,Zs];rw[Zl (by omega),Zp (by omega),Qn .n f i hi,Ql (by omega),Xl _ (h.2.1 _ (List.getElem_mem hi))];simp only[Zb,Zo];rw[ZI (by simp only[E.most,List.length_singleton];omega)];rfl)
  (fun k out ho=>by
   simp only[n51_0,w51_0,Zs];rw[Zx (by omega)];rfl) fuel 0 [] (by omega) rfl (by have:=ZZ;omega)
 unfold r51 m51 L51_0;simp only[Zs];simp only[Int.natCast_zero,List.drop_zero,List.nil_append]at key;rw[key];rfl
theorem Zam (f:List (List Int)) (h:small f):r81 ((f,()),())=some (((f,()),()),()):=by
 have h0:=h.1;have key:=Zah (fun k i out=>n81_0 k () ((f,()),((out,()),())) ((i:Int),())) f (fun out=>(Sum.inl ((f.length:Int),()),((f,()),((out,()),()))))
  (fun k i out hi ho=>by
   have hl:=h.2.1 _ (List.getElem_mem hi);simp only[n81_0,w81_0,Zs];rw[Zl (by omega),Zp (by omega),Qn .n f i hi,Ql (by omega)];rw[ZI (by simp only[E.most];omega),ZI (by simp only[E.most,List.length_singleton];omega)];rfl)
  (fun k out ho=>by
   simp only[n81_0,w81_0,Zs];rw[Zx (by omega)];rfl) fuel 0 [] (by omega) rfl (by have:=ZZ;omega)
 unfold r81 m81 L81_0;simp only[Int.natCast_zero,List.drop_zero,List.nil_append]at key;rw[key];rfl
theorem Zbw (f:List (List Int)) (h:small f):r120 (f,())=some ((f,()),()):=by
 have h0:=h.1;have key:=Zah (fun k i out=>n120_0 r52 k (f,((f.length:Int),())) () (out,((i:Int),()))) f (fun out=>(Sum.inl (out,((f.length:Int),())),()))
  (fun k i out hi ho=>by
   simp only[n120_0,w120_0,Zs];rw[Zl (by omega),Zp (by omega),Qn .n f i hi,Ql (by omega),Xl _ (h.2.1 _ (List.getElem_mem hi))];simp only[Zb,Zo];rw[ZI (by simp only[E.most,List.length_singleton];omega)];rfl)
  (fun k out ho=>by
   simp only[n120_0,w120_0,Zs];rw[Zx (by omega)];rfl) fuel 0 [] (by omega) rfl (by have:=ZZ;omega)
 unfold r120 m120 L120_0;simp only[Zs];simp only[Int.natCast_zero,List.drop_zero,List.nil_append]at key;rw[key];rfl
theorem Zcw (f:List (List Int)) (h:small f):r147 (f,())=some ((f,()),()):=by
 have h0:=h.1;have key:=Zah (fun k i out=>n147_0 k (f,()) () (out,((i:Int),()))) f (fun out=>(Sum.inl (out,((f.length:Int),())),()))
  (fun k i out hi ho=>by
   have hl:=h.2.1 _ (List.getElem_mem hi);simp only[n147_0,w147_0,Zs];rw[Zl (by omega),Zp (by omega),Qn .n f i hi,Ql (by omega)];rw[ZI (by simp only[E.most];omega),ZI (by simp only[E.most,List.length_singleton];omega)];rfl)
  (fun k out ho=>by
   simp only[n147_0,w147_0,Zs];rw[Zx (by omega)];rfl) fuel 0 [] (by omega) rfl (by have:=ZZ;omega)
 unfold r147 m147 L147_0;simp only[Int.natCast_zero,List.drop_zero,List.nil_append]at key;rw[key];rfl
theorem Zhf (x:Tup Kh) (h:x.1.length≤4398046511104):r66 (x,())=some ((x,()),()):=by
 unfold r66 m66;exact Za (Xl x.1 h) rfl
theorem Zdv (x:Tup Kh) (h:x.1.length≤4398046511104):r85 (x,())=some ((x,()),()):=by
 unfold r85 m85;simp only;rw[ZI (by simp only[E.most];omega)];rfl
theorem Zhg (p:Tup Yb) (h:VG p):r119 (p,())=some ((p,()),()):=by
 unfold r119 m119;exact Za (Xl p.2.2.2.2.2.2.1 h.1) (Za (Xl p.2.2.2.2.2.2.2.1 h.2) rfl)
theorem UF (p:Tup Yb) (h:VG p):r145 (p,())=some ((p,()),()):=by
 unfold r145 m145;obtain ⟨h1,h2⟩:=h;simp only;rw[ZI (by simp only[E.most];omega),ZI (by simp only[E.most];omega)];rfl
theorem ZcX (r:Tup Yh) (h:r.2.1.length≤4398046511104):r56 (r,())=some ((r,()),()):=by
 unfold r56 m56;simp only;rw[ZI (by simp only[E.most];omega)];rfl
theorem Zcx (r:Tup Yh) (h:r.2.1.length≤4398046511104):r146 (r,())=some ((r,()),()):=by
 unfold r146 m146;simp only;rw[ZI (by simp only[E.most];omega)];rfl
theorem ZgQ (w:Tup VE) (h:Zjw w):r67 (w,())=some ((w,()),()):=by
 unfold r67 m67;exact Za (Zhg (WV w) h.1) (Za (ZcX (Kl w) h.2.1) (Za (Zbw w.2.2.2.2.2.2.2.2.2.2.1 h.2.2) rfl))
theorem ZiV (w:Tup VN) (h:ZjN w):r68 (w,())=some ((w,()),()):=by
 unfold r68 m68;exact Za (ZcX (Kp w) h.1) (Za (Xl w.2.2.2.2.2.2.2.2.2.1 h.2) rfl)
theorem Zae (s:Tup QM) (h:ZU s):r25 (s,())=some ((s,()),()):=by
 unfold r25 m25;obtain ⟨h1,h2,h3,h4,h5,h6⟩:=h;exact Za (ZaT (Wn s) h1) (Za (Xl (Wo s) h2) (Za (Zhf (VP s) h3) (Za (Xl (Zgv s) h4) (Za (ZgQ (Jw s) h5) (Za (ZiV (JP s) h6) rfl)))))
abbrev Ziz (s:Tup QM):List (List Int):=(Jw s).2.2.2.2.2.2.2.2.2.2.1
abbrev ZdM (s:Tup QM):List Int:=(JP s).2.2.2.2.2.2.2.2.2.1
def UK (s:Tup QM):Tup Vb:=(Ziz s,(ZdM s,(Zgv s,())))
theorem ZeH (s:Tup QM) (h:ZU s):r212 (s,())=some ((UK s,()),()):=by
 unfold r212 m212;obtain ⟨h1,h2,h3,h4,h5,h6⟩:=h;exact Za (Zbw (Ziz s) h5.2.2) (Za (Xl (ZdM s) h6.2) (Za (Xl (Zgv s) h4) rfl))
theorem ZeQ (s:Tup QM) (h:ZU s):r227 (s,())=some ((UK s,()),()):=by
 unfold r227 m227;obtain ⟨h1,h2,h3,h4,h5,h6⟩:=h;refine Za (Zcw (Ziz s) h5.2.2) ?_;have a1:(ZdM s).length≤4398046511104:=h6.2;rw[ZI (show 0+(ZdM s).length≤E.most .i by simp only[E.most];omega),ZI (show 0+(Zgv s).length≤E.most .i by simp only[E.most];omega)];rfl
def Zn3 (s:Tup QM):Bool:=eqI (Jw s).1 (spT s)&&eqI ((Kl (Jw s)).2.1.length:Int) 0
def Zop (s:Tup QM):Bool:=eqI (JP s).1 (spT s)&&eqI ((Kp (JP s)).2.1.length:Int) 0
theorem ZbW (s:Tup QM):r194 (s,())=some ((Zn3 s,()),()):=by
 unfold r194 m194;simp only[Zs,Q7];rfl
theorem Zbd (s:Tup QM):r190 (s,())=some ((Zop s,()),()):=by
 unfold r190 m190;simp only[Zs,Q7];rfl
theorem Zb8 (s:Tup QM):r160 (s,())=some ((Zn3 s,()),()):=by
 unfold r160 m160;simp only[Zs,Q7];rfl
theorem ZbC (s:Tup QM):r155 (s,())=some ((Zop s,()),()):=by
 unfold r155 m155;simp only[Zs,Q7];rfl
def Zmx:Tup Xr:=([],([],([],(0,(0,(0,(0,(0,(false,(false,(false,(false,(0,(0,(0,(0,(0,(false,([],([],(0,(0,(0,(0,(0,(false,(false,(false,(0,(false,(0,([],([],([],()))))))))))))))))))))))))))))))))))
def Zql (s:Tup QM):Tup Xr:=(Wn s,(Wo s,((VP s).1,((VP s).2.1,((Kq s).1,((Kq s).2.1,((Kq s).2.2.1,((Kq s).2.2.2.1,((Kq s).2.2.2.2.1,((Kq s).2.2.2.2.2.1,((Kq s).2.2.2.2.2.2.1,((Kq s).2.2.2.2.2.2.2.1,
 ((Jw s).1,((Jw s).2.1,((Jw s).2.2.1,((Jw s).2.2.2.1,((Jw s).2.2.2.2.1,((Jw s).2.2.2.2.2.1,((Jw s).2.2.2.2.2.2.1,((Jw s).2.2.2.2.2.2.2.1,
 ((JP s).1,((JP s).2.1,((JP s).2.2.1,((JP s).2.2.2.1,((JP s).2.2.2.2.1,((JP s).2.2.2.2.2.1,((JP s).2.2.2.2.2.2.1,((ZrW s).1,((ZrW s).2.1,(Zsz s,(Zos s,UK s)))))))))))))))))))))))))))))))
def VZ (s:Tup QM):Tup Xr:=if Qb s&&(Zn3 s&&Zop s)then Zql s else Zmx
theorem Zih (s:Tup QM) (h:ZU s):r214 (s,())=some ((VZ s,()),()):=by
 unfold r214 m214 VZ;refine Za (Vt s h) ?_;cases Qb s with
 |false=>rfl
 |true=>
  refine Za (ZbW s) ?_;cases Zn3 s with
  |false=>rfl
  |true=>
   refine Za (Zbd s) ?_;cases Zop s with
   |false=>rfl
   |true=>exact Za (Zae s h) (Za (ZeH s h) rfl)
theorem ZiA (s:Tup QM) (h:ZU s):r229 (s,())=some ((VZ s,()),()):=by
 unfold r229 m229 VZ;have h':=h;obtain ⟨h1,h2,h3,h4,h5,h6⟩:=h;refine Za (Vf s h') ?_;cases Qb s with
 |false=>rfl
 |true=>
  refine Za (Zb8 s) ?_;cases Zn3 s with
  |false=>rfl
  |true=>
   refine Za (ZbC s) ?_;cases Zop s with
   |false=>rfl
   |true=>
    refine Za (Zam (Wn s) h1) ?_;rw[ZI (show 0+(Wo s).length≤E.most .i by simp only[E.most];omega)];exact Za (Zdv (VP s) h3) (Za (UF (WV (Jw s)) h5.1) (Za (ZeQ s h') rfl))
theorem mod256 (x:Int):0≤x%256∧x%256≤255:=by omega
theorem Xp (y:PTup i242):r242 y=some (((y.1:Int)%256,()),()):=by
 unfold r242 m242;rw[Kx]
theorem QY (y:PTup i80):r80 y=some (((y.1:Int)%256,()),()):=by
 unfold r80 m80;rw[Kx]
theorem ZaM (y:PTup i252):r252 y=some (((y.1:Int)%65536,()),()):=by
 unfold r252 m252;rw[Zhc]
theorem VQ (y:PTup i222):r222 y=some (((y.1:Int)%65536,()),()):=by
 unfold r222 m222;rw[Zhc]
def QW (b:Bool):Int:=if b then 1 else 0
theorem ZfC (y:PTup i301):r301 y=some ((QW y.1,()),()):=by
 unfold r301 m301 QW;obtain ⟨b,_⟩:=y;cases b<;>rfl
theorem Zdu (y:PTup i326):r326 y=some ((QW y.1,()),()):=by
 unfold r326 m326 QW;obtain ⟨b,_⟩:=y;cases b<;>rfl
theorem XZ (b:Bool):0≤QW b∧QW b≤1:=by cases b<;>simp[QW]
def Xq (lo hi:Int):Int:=lo%256+256*(hi%256)
theorem Zal (y:PTup i178):r178 y=some ((Xq y.1 y.2.1,()),()):=by
 unfold r178 m178 Xq;obtain ⟨lo,hi,_⟩:=y;simp only[Xp,Zo];have h1:=mod256 lo;have h2:=mod256 hi;rw[Zr (x:=256*(hi%256)) (by omega) (by omega),Zr (by omega) (by omega)]
theorem ZaR (y:PTup i143):r143 y=some ((Xq y.1 y.2.1,()),()):=by
 unfold r143 m143 Xq;obtain ⟨lo,hi,_⟩:=y;simp only[QY,Zo];have h1:=mod256 lo;have h2:=mod256 hi;rw[Zr (x:=256*(hi%256)) (by omega) (by omega),Zr (by omega) (by omega)]
theorem Zb6 (y:PTup i306):r306 y=some ((eqI ((y.1:Int)%256) 0,(ltI 127 ((y.1:Int)%256),())),()):=by
 unfold r306 m306;simp only[Xp,Zo]
theorem Zck (y:PTup i330):r330 y=some ((eqI ((y.1:Int)%256) 0,(ltI 127 ((y.1:Int)%256),())),()):=by
 unfold r330 m330;simp only[QY,Zo]
def KW (a b:Int) (c:Bool):Int:=a%256+b%256+QW c
theorem ZfK (y:PTup i304):r304 y=some ((KW y.1 y.2.1 y.2.2.1%256,(ltI 255 (KW y.1 y.2.1 y.2.2.1),())),()):=by
 unfold r304 m304 KW;obtain ⟨a,b,c,_⟩:=y;simp only[Xp,ZfC,Zo];have h1:=mod256 a;have h2:=mod256 b;have h3:=XZ c;rw[Zr (x:=a%256+b%256) (by omega) (by omega),Zr (x:=a%256+b%256+QW c) (by omega) (by omega)]
theorem ZkN (y:PTup i342):r342 y=some ((KW y.1 y.2.1 y.2.2.1%256,(ltI 255 (KW y.1 y.2.1 y.2.2.1),())),()):=by
 unfold r342 m342 KW;obtain ⟨a,b,c,_⟩:=y;simp only[QY,Zdu,Zo];have h1:=mod256 a;have h2:=mod256 b;have h3:=XZ c;rw[Zr (x:=a%256+b%256) (by omega) (by omega),Zr (x:=a%256+b%256+QW c) (by omega) (by omega)]
def Xb (a b:Int) (c:Bool):Int:=a%256-b%256-1+QW c
theorem ZfV (y:PTup i305):r305 y=some ((Xb y.1 y.2.1 y.2.2.1%256,(leI 0 (Xb y.1 y.2.1 y.2.2.1),())),()):=by
 unfold r305 m305 Xb;obtain ⟨a,b,c,_⟩:=y;simp only[Xp,ZfC,Zo];have h1:=mod256 a;have h2:=mod256 b;have h3:=XZ (!c);rw[Zr (x:=a%256-b%256) (by omega) (by omega),Zr (x:=a%256-b%256-QW (!c)) (by omega) (by omega),show a%256-b%256-QW (!c)=a%256-b%256-1+QW c by cases c<;>simp[QW]]
theorem ZkR (y:PTup i329):r329 y=some ((Xb y.1 y.2.1 y.2.2.1%256,(leI 0 (Xb y.1 y.2.1 y.2.2.1),())),()):=by
 unfold r329 m329 Xb;obtain ⟨a,b,c,_⟩:=y;simp only[QY,Zdu,Zo];have h1:=mod256 a;have h2:=mod256 b;have h3:=XZ c;rw[Zr (x:=a%256-b%256) (by omega) (by omega),Zr (x:=a%256-b%256-1) (by omega) (by omega),Zr (x:=a%256-b%256-1+QW c) (by omega) (by omega)]
theorem Kk {n:Int} (h:0≤n∧n≤29):n=0∨n=1∨n=2∨n=3∨n=4∨n=5∨n=6∨n=7∨n=8∨n=9∨n=10∨n=11∨n=12∨n=13∨n=14∨n=15∨n=16∨n=17∨n=18∨n=19∨n=20∨n=21∨n=22∨n=23∨n=24∨n=25∨n=26∨n=27∨n=28∨n=29:=by omega
def Qh (n:Int):Int:=if 0≤n∧n≤29 then ([1,2,3,3,2,2,2,2,2,2,1,1,1,1,3,3,3,3,3,3,3,1,1,1,1,1,1,1,1,3]:List Int).getD n.toNat 1 else 1
def Qs (n:Int):Int:=if 0≤n∧n≤29 then ([2,2,4,4,2,2,2,2,2,2,2,2,2,2,4,5,3,3,3,3,6,6,3,4,6,2,2,2,2,4]:List Int).getD n.toNat 2 else 2
def ZT (n:Int):Int:=if n=2∨n=14∨n=29 then 1 else if n=3∨n=15 then 2 else 0
theorem ZaY (y:PTup i109):r109 y=some ((Qh y.1,()),()):=by
 obtain ⟨(n:Int),_⟩:=y;show r109 (n,())=some ((Qh n,()),());by_cases h:0≤n∧n≤29
 ·rcases Kk h with rfl|rfl|rfl|rfl|rfl|rfl|rfl|rfl|rfl|rfl|rfl|rfl|rfl|rfl|rfl|rfl|rfl|rfl|rfl|rfl|rfl|rfl|rfl|rfl|rfl|rfl|rfl|rfl|rfl|rfl<;>rfl
 ·have e: ∀c:Int,0≤c→c≤29→eqI n c=false:=fun c h0 h1=>Zi (by omega);have e2: ∀a b:Int,0≤a→b≤29→inR a b n=false:=fun a b h0 h1=>by
   cases hh:inR a b n with
   |false=>rfl
   |true=>have:=JE.1 hh;omega
  unfold r109 m109 Qh;rw[Zc h];simp[e,e2,XQ]
theorem Za7 (y:PTup i142):r142 y=some ((Qh y.1,()),()):=by
 obtain ⟨(n:Int),_⟩:=y;show r142 (n,())=some ((Qh n,()),());by_cases h:0≤n∧n≤29
 ·rcases Kk h with rfl|rfl|rfl|rfl|rfl|rfl|rfl|rfl|rfl|rfl|rfl|rfl|rfl|rfl|rfl|rfl|rfl|rfl|rfl|rfl|rfl|rfl|rfl|rfl|rfl|rfl|rfl|rfl|rfl|rfl<;>rfl
 ·have e2:inR 0 29 n=false:=by
   cases hh:inR 0 29 n with
   |false=>rfl
   |true=>exact absurd (JE.1 hh) h
  unfold r142 m142 Qh;rw[Zc h];simp only[JV,Zo,e2,QE,Zb]
theorem Zaa (y:PTup i195):r195 y=some ((Qs y.1,()),()):=by
 obtain ⟨(n:Int),_⟩:=y;show r195 (n,())=some ((Qs n,()),());by_cases h:0≤n∧n≤29
 ·rcases Kk h with rfl|rfl|rfl|rfl|rfl|rfl|rfl|rfl|rfl|rfl|rfl|rfl|rfl|rfl|rfl|rfl|rfl|rfl|rfl|rfl|rfl|rfl|rfl|rfl|rfl|rfl|rfl|rfl|rfl|rfl<;>rfl
 ·have e: ∀c:Int,0≤c→c≤29→eqI n c=false:=fun c h0 h1=>Zi (by omega);unfold r195 m195 Qs;rw[Zc h];simp[e]
theorem Zab (y:PTup i161):r161 y=some ((Qs y.1,()),()):=by
 obtain ⟨(n:Int),_⟩:=y;show r161 (n,())=some ((Qs n,()),());by_cases h:0≤n∧n≤29
 ·rcases Kk h with rfl|rfl|rfl|rfl|rfl|rfl|rfl|rfl|rfl|rfl|rfl|rfl|rfl|rfl|rfl|rfl|rfl|rfl|rfl|rfl|rfl|rfl|rfl|rfl|rfl|rfl|rfl|rfl|rfl|rfl<;>rfl
 ·have e2:inR 0 29 n=false:=by
   cases hh:inR 0 29 n with
   |false=>rfl
   |true=>exact absurd (JE.1 hh) h
  unfold r161 m161 Qs;rw[Zc h];simp only[JV,Zo,e2,QE,Zb]
theorem ZfQ (y:PTup i251):r251 y=some ((ZT y.1,()),()):=by
 obtain ⟨(n:Int),_⟩:=y;show r251 (n,())=some ((ZT n,()),());by_cases h:0≤n∧n≤29
 ·rcases Kk h with rfl|rfl|rfl|rfl|rfl|rfl|rfl|rfl|rfl|rfl|rfl|rfl|rfl|rfl|rfl|rfl|rfl|rfl|rfl|rfl|rfl|rfl|rfl|rfl|rfl|rfl|rfl|rfl|rfl|rfl<;>rfl
 ·have e: ∀c:Int,0≤c→c≤29→eqI n c=false:=fun c h0 h1=>Zi (by omega);unfold r251 m251 ZT;rw[Zc (by omega),Zc (by omega)];simp[e]
theorem ZgC (y:PTup i221):r221 y=some ((ZT y.1,()),()):=by
 obtain ⟨(n:Int),_⟩:=y;show r221 (n,())=some ((ZT n,()),());by_cases h:0≤n∧n≤29
 ·rcases Kk h with rfl|rfl|rfl|rfl|rfl|rfl|rfl|rfl|rfl|rfl|rfl|rfl|rfl|rfl|rfl|rfl|rfl|rfl|rfl|rfl|rfl|rfl|rfl|rfl|rfl|rfl|rfl|rfl|rfl|rfl<;>rfl
 ·have e: ∀c:Int,0≤c→c≤29→eqI n c=false:=fun c h0 h1=>Zi (by omega);unfold r221 m221 ZT;rw[Zc (by omega),Zc (by omega)];simp[e]
structure ZF where
 ram:List Int
 bank:Int
structure Zq where
 a:Int
 x:Int
 s:Int
 pc:Int
 z:Bool
 n:Bool
 c:Bool
 i:Bool
structure Z2 where
 T:Int
 ctrl:Int
 scroll:Int
 addr:Int
 pal:Int
 blank:Bool
 table:List Int
 dots:List Int
structure Qr where
 T:Int
 period:Int
 count:Int
 bit:Int
 len:Int
 asks:Bool
 irq:Bool
structure YC where
 held:Bool
 shift:Int
def ZF.t (x:ZF):Tup Kh:=(x.ram,(x.bank,()))
def Zq.t (c:Zq):Tup Xm:=(c.a,(c.x,(c.s,(c.pc,(c.z,(c.n,(c.c,(c.i,()))))))))
def Z2.t (p:Z2):Tup Yb:=(p.T,(p.ctrl,(p.scroll,(p.addr,(p.pal,(p.blank,(p.table,(p.dots,()))))))))
def Qr.t (a:Qr):Tup KX:=(a.T,(a.period,(a.count,(a.bit,(a.len,(a.asks,(a.irq,())))))))
def YC.t (x:YC):Tup UM:=(x.held,(x.shift,()))
def ZsT (x:Tup Kh):ZF:=⟨x.1,x.2.1⟩
def ZsQ (c:Tup Xm):Zq:=⟨c.1,c.2.1,c.2.2.1,c.2.2.2.1,c.2.2.2.2.1,c.2.2.2.2.2.1,c.2.2.2.2.2.2.1,c.2.2.2.2.2.2.2.1⟩
def ZsW (p:Tup Yb):Z2:=⟨p.1,p.2.1,p.2.2.1,p.2.2.2.1,p.2.2.2.2.1,p.2.2.2.2.2.1,p.2.2.2.2.2.2.1,p.2.2.2.2.2.2.2.1⟩
def ZsO (a:Tup KX):Qr:=⟨a.1,a.2.1,a.2.2.1,a.2.2.2.1,a.2.2.2.2.1,a.2.2.2.2.2.1,a.2.2.2.2.2.2.1⟩
def ZsV (x:Tup UM):YC:=⟨x.1,x.2.1⟩
def J7 (l:List Int):Prop:= ∀n,n∈l→0≤n∧n≤255
structure Yn (f:List (List Int)):Prop where
 banks: ∀b,b∈f→b.length=256∧J7 b
 lo:1≤f.length
 hi:f.length≤8
structure JK (x:ZF):Prop where
 len:x.ram.length=512
 bytes:J7 x.ram
structure Jz (f:List (List Int)) (x:ZF):Prop where
 img:Yn f
 ram:JK x
 b0:0≤x.bank
 b1:x.bank< (f.length:Int)
structure ZO (c:Zq):Prop where
 a:0≤c.a∧c.a≤255
 x:0≤c.x∧c.x≤255
 s:0≤c.s∧c.s≤255
 pc:0≤c.pc∧c.pc≤65535
theorem Zdc {lo hi:Int} {l:List Int}:YP lo hi l=true↔ ∀n,n∈l→lo≤n∧n≤hi:=by
 unfold YP;rw[List.all_eq_true];exact ⟨fun h n hn=>JE.1 (h n hn),fun h n hn=>JE.2 (h n hn)⟩
theorem Vs {a b:Int}:eqI a b=true↔a=b:=by rw[Qo];simp
theorem WO {a b:Int}:leI a b=true↔a≤b:=by simp[leI]
theorem ZfJ {f:List (List Int)}:V5 f=true↔Yn f:=by
 unfold V5;rw[Bool.and_eq_true,List.all_eq_true,JE];constructor
 ·rintro ⟨h,h1,h2⟩;refine ⟨fun b hb=> ?_,by omega,by omega⟩;have:=h b hb;unfold KZ at this;rw[Bool.and_eq_true,Vs,Zdc]at this;exact ⟨by omega,this.2⟩
 ·rintro ⟨h,h1,h2⟩;refine ⟨fun b hb=> ?_,by omega,by omega⟩;unfold KZ;rw[Bool.and_eq_true,Vs,Zdc];exact ⟨by have:=(h b hb).1;omega,(h b hb).2⟩
theorem UI {f:List (List Int)} {x:ZF}:Y7 f x.t=true↔Jz f x:=by
 unfold Y7 ZF.t;simp only[Bool.and_eq_true,ZfJ,Vs,Zdc,JE];constructor
 ·rintro ⟨h,h1,h2,h3,h4⟩;exact ⟨h,⟨by omega,h2⟩,h3,by omega⟩
 ·rintro ⟨h,⟨h1,h2⟩,h3,h4⟩;exact ⟨h,by omega,h2,h3,by omega⟩
theorem Zdg {c:Zq}:Yq c.t=true↔ZO c:=by
 unfold Yq Zq.t;simp only[Bool.and_eq_true,JE];constructor
 ·rintro ⟨h,h1,h2,h3⟩;exact ⟨h,h1,h2,h3⟩
 ·rintro ⟨h,h1,h2,h3⟩;exact ⟨h,h1,h2,h3⟩
theorem Yn.small {f:List (List Int)} (h:Yn f):small f:=by
 have key: ∀g:List (List Int),(∀b,b∈g→b.length=256)→Wz g=256*g.length:=by
  intro g;induction g with
  |nil=>intro _;rfl
  |cons b g ih=>
   intro hb;simp only[Wz,List.length_cons];rw[ih (fun b hg=>hb b (List.mem_cons_of_mem _ hg)),hb b List.mem_cons_self];omega
 have hi:=h.hi;refine ⟨by omega,fun l hl=> ?_,?_⟩
 ·have:=(h.banks l hl).1;omega
 ·rw[key f fun b hb=>(h.banks b hb).1];omega
def YJ (c:Zq) (v:Int):Zq:={c with a:=v%256,z:=eqI (v%256) 0,n:=ltI 127 (v%256)}
def VM (c:Zq) (v:Int):Zq:={c with x:=v%256,z:=eqI (v%256) 0,n:=ltI 127 (v%256)}
def wfT (c:Zq) (f:Int):Zq:={c with z:=neI (ZL .i64 f 2) 0,n:=neI (ZL .i64 f 128) 0,c:=neI (ZL .i64 f 1) 0,i:=neI (ZL .i64 f 4) 0}
def Uz (c:Zq):Int:=QW c.c+2*QW c.z+4*QW c.i+128*QW c.n
theorem K7 (c:Zq) (v:Int):r303 (c.t,(v,()))=some (((YJ c v).t,()),()):=by
 unfold r303 m303;simp only[Xp,Zb6,Zo];rfl
theorem VR (c:Zq) (v:Int):r290 (c.t,(v,()))=some (((YJ c v).t,()),()):=by
 unfold r290 m290;simp only[QY,Zck,Zo];rfl
theorem ZcZ (c:Zq) (v:Int):r307 (c.t,(v,()))=some (((VM c v).t,()),()):=by
 unfold r307 m307;simp only[Xp,Zb6,Zo];rfl
theorem Zc5 (c:Zq) (v:Int):r331 (c.t,(v,()))=some (((VM c v).t,()),()):=by
 unfold r331 m331;simp only[QY,Zck,Zo];rfl
theorem Ziy {c:Zq} {v:Int} (h:ZO c):ZO (YJ c v):=⟨mod256 v,h.x,h.s,h.pc⟩
theorem Zq3 {c:Zq} {v:Int} (h:ZO c):ZO (VM c v):=⟨h.a,mod256 v,h.s,h.pc⟩
theorem ZeX (c:Zq) (f:Int):r310 (c.t,(f,()))=some (((wfT c f).t,()),()):=rfl
theorem Ze0 (c:Zq) (f:Int):r291 (c.t,(f,()))=some (((wfT c f).t,()),()):=rfl
theorem Zrg {c:Zq} {f:Int} (h:ZO c):ZO (wfT c f):=⟨h.a,h.x,h.s,h.pc⟩
theorem Zi8 (c:Zq):r255 (c.t,())=some ((Uz c,()),()):=by
 unfold r255 m255 Uz;simp only[ZfC,Zo,Zq.t];obtain ⟨a,x,s,pc,z,n,c,i⟩:=c;simp only;cases z<;>cases n<;>cases c<;>cases i<;>rfl
theorem ZjP (c:Zq):r280 (c.t,())=some ((Uz c,()),()):=by
 unfold r280 m280 Uz;simp only[Zdu,Zo,Zq.t];obtain ⟨a,x,s,pc,z,n,c,i⟩:=c;simp only;cases z<;>cases n<;>cases c<;>cases i<;>rfl
def rgT (a:Int):Int×Int:=
 let b:=a%65536
 if b<8192 then (1,b%512)else if b<16384 then (2,b%8)else if b<16388 then (3,b%4)else if b=16406 then (4,0)else if b<32768 then (7,0)else if b<49152 then (5,b%256)else (6,b%256)
theorem Qx {a b:Int} (h:0≤a):Int.tmod a b=a%b:=Int.tmod_eq_emod_of_nonneg h
theorem Zi9 (a:Int):r193 (a,())=some (((rgT a).1,((rgT a).2,())),()):=by
 unfold r193 m193 rgT;simp only[ZaM,Zo];have h0:0≤a%65536:=by omega
 generalize a%65536=b at*;rw[Qx h0,Qx h0,Qx h0,Qx h0];by_cases h1:b<8192
 ·rw[Zl h1,Ze h1];rfl
 rw[Zx h1,Zc h1,Zd];by_cases h1:b<16384
 ·rw[Zl h1,Ze h1];rfl
 rw[Zx h1,Zc h1,Zd];by_cases h1:b<16388
 ·rw[Zl h1,Ze h1];rfl
 rw[Zx h1,Zc h1,Zd];by_cases h1:b=16406
 ·rw[Zn h1,Ze h1];rfl
 rw[Zi h1,Zc h1,Zd];by_cases h1:b<32768
 ·rw[Zl h1,Ze h1];rfl
 rw[Zx h1,Zc h1,Zd];by_cases h1:b<49152
 ·rw[Zl h1,Ze h1];rfl
 rw[Zx h1,Zc h1,Zd]
theorem WI (y:PTup i193):r193 y=some (((rgT y.1).1,((rgT y.1).2,())),()):=Zi9 y.1
theorem ZjR (a:Int):r159 (a,())=some (((rgT a).1,((rgT a).2,())),()):=by
 unfold r159 m159 rgT;simp only[VQ,Zo];have h0:0≤a%65536:=by omega
 generalize a%65536=b at*;rw[Qx h0,Qx h0,Qx h0,Qx h0];by_cases h1:b<8192
 ·rw[Zl h1,Ze h1];rfl
 rw[Zx h1,Zc h1,Zd];by_cases h1:b<16384
 ·rw[Zl h1,Ze h1];rfl
 rw[Zx h1,Zc h1,Zd];by_cases h1:b<16388
 ·rw[Zl h1,Ze h1];rfl
 rw[Zx h1,Zc h1,Zd];by_cases h1:b=16406
 ·rw[Zn h1,Ze h1];rfl
 rw[Zi h1,Zc h1,Zd];by_cases h1:b<32768
 ·rw[Zl h1,Ze h1];rfl
 rw[Zx h1,Zc h1,Zd];by_cases h1:b<49152
 ·rw[Zl h1,Ze h1];rfl
 rw[Zx h1,Zc h1,Zd]
theorem Wp (y:PTup i159):r159 y=some (((rgT y.1).1,((rgT y.1).2,())),()):=ZjR y.1
theorem UT (a:Int):((rgT a).1=1∧0≤(rgT a).2∧(rgT a).2<512)∨((rgT a).1=2∧0≤(rgT a).2∧(rgT a).2<8)∨((rgT a).1=3∧0≤(rgT a).2∧(rgT a).2<4)∨((rgT a).1=4∧(rgT a).2=0)∨((rgT a).1=5∧0≤(rgT a).2∧(rgT a).2<256)∨((rgT a).1=6∧0≤(rgT a).2∧(rgT a).2<256)∨((rgT a).1=7∧(rgT a).2=0):=by
 unfold rgT;simp only;split
 ·left;exact ⟨rfl,by show 0≤a%65536%512;omega,by show a%65536%512<512;omega⟩
 right;split
 ·left;exact ⟨rfl,by show 0≤a%65536%8;omega,by show a%65536%8<8;omega⟩
 right;split
 ·left;exact ⟨rfl,by show 0≤a%65536%4;omega,by show a%65536%4<4;omega⟩
 right;split
 ·left;exact ⟨rfl,rfl⟩
 right;split
 ·right;right;exact ⟨rfl,rfl⟩
 split
 ·left;exact ⟨rfl,by show 0≤a%65536%256;omega,by show a%65536%256<256;omega⟩
 ·right;left;exact ⟨rfl,by show 0≤a%65536%256;omega,by show a%65536%256<256;omega⟩
def ZR (f:List (List Int)) (x:ZF) (a:Int):Int:=
 if (rgT a).1=1 then rdE .i x.ram (rgT a).2 else if (rgT a).1=5 then rdI (rdE .n f x.bank) (rgT a).2 else if (rgT a).1=6 then rdI (rdE .n f ((f.length:Int)-1)) (rgT a).2 else 0
theorem XI {e:E} {l:List e.C} {i:Int} (h0:0≤i) (h1:i< (l.length:Int)):rdE e l i∈l:=by
 have:i.toNat<l.length:=by omega
 rw[show rdE e l i=l[i.toNat] by simp[rdE,List.getD,this]];exact List.getElem_mem _
theorem Zn9 {l:List Int} {i:Int} (h0:0≤i) (h1:i< (l.length:Int)):rdI l i∈l:=XI (e:= .i) h0 h1
theorem Zeo {f:List (List Int)} {x:ZF} (h:Jz f x) (a:Int):0≤ZR f x a∧ZR f x a≤255:=by
 have hf:=h.img.lo;have hb0:=h.b0;have hb1:=h.b1;have hl:=h.ram.len;unfold ZR;have z:(0:Int)≤0∧(0:Int)≤255:=by decide
 rcases UT a with ⟨e,h0,h1⟩| ⟨e,h0,h1⟩| ⟨e,h0,h1⟩| ⟨e,h0⟩| ⟨e,h0,h1⟩| ⟨e,h0,h1⟩| ⟨e,h0⟩<;>rw[e]
 ·exact h.ram.bytes _ (XI (e:= .i) h0 (by omega))
 ·exact z
 ·exact z
 ·exact z
 ·have hm:=h.img.banks _ (XI (e:= .n) hb0 hb1);exact hm.2 _ (Zn9 h0 (by have:=hm.1;omega))
 ·have hm:=h.img.banks _ (XI (e:= .n) (l:=f) (i:=(f.length:Int)-1) (by omega) (by omega));exact hm.2 _ (Zn9 h0 (by have:=hm.1;omega))
 ·exact z
theorem V6 (f:List (List Int)) (x:ZF) (a:Int) (h:Jz f x):r198 ((f,()),(x.t,(a,())))=some ((ZR f x a,()),()):=by
 have hf:=h.img.lo;have hg:=h.img.hi;have hb0:=h.b0;have hb1:=h.b1;have hl:=h.ram.len;unfold r198 m198 ZR;simp only[WI,Zo,Zs,ZF.t];rw[Zr (x:=(f.length:Int)-1) (by omega) (by omega)];rcases UT a with ⟨e,h0,h1⟩| ⟨e,h0,h1⟩| ⟨e,h0,h1⟩| ⟨e,h0⟩| ⟨e,h0,h1⟩| ⟨e,h0,h1⟩| ⟨e,h0⟩<;>rw[e]
 ·rw[Zp h0,Zl (by omega)];rfl
 ·rfl
 ·rfl
 ·rfl
 ·have hm:=(h.img.banks _ (XI (e:= .n) hb0 hb1)).1;rw[Zp hb0,Zl hb1,Zp h0,Zl (show (rgT a).2< ((rdE .n f x.bank:List Int).length:Int) by omega)];rfl
 ·have hm:=(h.img.banks _ (XI (e:= .n) (l:=f) (i:=(f.length:Int)-1) (by omega) (by omega))).1;rw[Zp (show 0≤(f.length:Int)-1 by omega),Zl (show (f.length:Int)-1< (f.length:Int) by omega),Zp h0,Zl (show (rgT a).2< ((rdE .n f ((f.length:Int)-1):List Int).length:Int) by omega)];rfl
 ·rfl
theorem Zci (f:List (List Int)) (x:ZF) (a:Int) (h:Jz f x):r217 ((f,()),(x.t,(a,())))=some ((ZR f x a,()),()):=by
 have hf:=h.img.lo;have hg:=h.img.hi;have hb0:=h.b0;have hb1:=h.b1;have hl:=h.ram.len;unfold r217 m217 ZR;simp only[Wp,Zo,Zs,ZF.t];rw[Zr (x:=(f.length:Int)-1) (by omega) (by omega)];rcases UT a with ⟨e,h0,h1⟩| ⟨e,h0,h1⟩| ⟨e,h0,h1⟩| ⟨e,h0⟩| ⟨e,h0,h1⟩| ⟨e,h0,h1⟩| ⟨e,h0⟩<;>rw[e]
 ·rw[Zp h0,Zl (by omega)];rfl
 ·rfl
 ·rfl
 ·rfl
 ·have hm:=(h.img.banks _ (XI (e:= .n) hb0 hb1)).1;rw[Zp hb0,Zl hb1,Zp h0,Zl (show (rgT a).2< ((rdE .n f x.bank:List Int).length:Int) by omega)];rfl
 ·have hm:=(h.img.banks _ (XI (e:= .n) (l:=f) (i:=(f.length:Int)-1) (by omega) (by omega))).1;rw[Zp (show 0≤(f.length:Int)-1 by omega),Zl (show (f.length:Int)-1< (f.length:Int) by omega),Zp h0,Zl (show (rgT a).2< ((rdE .n f ((f.length:Int)-1):List Int).length:Int) by omega)];rfl
 ·rfl
theorem Zkk (f:List (List Int)) (x:ZF) (h:Jz f x):r57 ((f,()),(x.t,()))=some ((true,()),()):=by
 have:=ZaX f x.t h.img.small (by show x.ram.length≤_;have:=h.ram.len;omega);rw[UI.2 h]at this;exact this
theorem ZgB (f:List (List Int)) (x:ZF) (h:Jz f x):r89 ((f,()),(x.t,()))=some ((true,()),()):=by
 have:=Za6 f x.t h.img.small (by show x.ram.length≤_;have:=h.ram.len;omega);rw[UI.2 h]at this;exact this
theorem ZfS (f:List (List Int)) (x:ZF) (a:Int) (h:Jz f x):r179 ((f,()),(x.t,(a,())))=some ((ZR f x a,()),()):=by
 unfold r179 m179;exact Za (Zkk f x h) (Za (V6 f x a h) rfl)
theorem Zap (f:List (List Int)) (x:ZF) (a:Int) (h:Jz f x):r144 ((f,()),(x.t,(a,())))=some ((ZR f x a,()),()):=by
 unfold r144 m144;exact Za (ZgB f x h) (Za (Zci f x a h) rfl)
def KJ (f:List (List Int)) (x:ZF) (a v:Int):ZF:=
 if (rgT a).1=1 then {x with ram:=x.ram.set (rgT a).2.toNat (v%256)}else if (rgT a).1=5∨(rgT a).1=6 then {x with bank:=(v%256)% (f.length:Int)}else x
theorem J7.set {l:List Int} (h:J7 l) (i:Nat) {v:Int} (hv:0≤v∧v≤255):J7 (l.set i v):=fun n hn=>by
 rcases List.mem_or_eq_of_mem_set hn with h1|h1
 ·exact h n h1
 ·rw[h1];exact hv
theorem Zn4 {f:List (List Int)} {x:ZF} (h:Jz f x) (a v:Int):Jz f (KJ f x a v):=by
 have hf:=h.img.lo;unfold KJ;split
 ·exact ⟨h.img,⟨by simp[h.ram.len],h.ram.bytes.set _ (mod256 v)⟩,h.b0,h.b1⟩
 split
 ·exact ⟨h.img,⟨h.ram.len,h.ram.bytes⟩,Int.emod_nonneg _ (by omega),Int.emod_lt_of_pos _ (by omega)⟩
 ·exact h
theorem ZfT (f:List (List Int)) (x:ZF) (a v:Int) (h:Jz f x):r260 (x.t,((f,()),(a,(v,()))))=some ((),((KJ f x a v).t,())):=by
 have hf:=h.img.lo;have hl:=h.ram.len;unfold r260 m260 KJ;simp only[WI,Xp,Zo,Zs,ZF.t];have hv:=mod256 v;rw[Qx hv.1,QS (show (f.length:Int)≠0 by omega)];rcases UT a with ⟨e,h0,h1⟩| ⟨e,h0,h1⟩| ⟨e,h0,h1⟩| ⟨e,h0⟩| ⟨e,h0,h1⟩| ⟨e,h0,h1⟩| ⟨e,h0⟩<;>rw[e]
 ·rw[Zp h0,Zl (by omega)];rfl
 all_goals rfl
theorem Zdw (x:ZF) (h:x.ram.length=512):r85 (x.t,())=some ((x.t,()),()):=Zdv x.t (by show x.ram.length≤_;omega)
theorem ZgE (f:List (List Int)) (x:ZF) (a v:Int) (h:Jz f x):r286 ((f,()),(x.t,(a,(v,()))))=some (((KJ f x a v).t,()),()):=by
 have hf:=h.img.lo;have hl:=h.ram.len;unfold r286 m286 KJ;refine Za (Zdw x hl) (Za (ZgB f x h) ?_);simp only[Wp,QY,Zo,Zs,ZM,Zd,ZF.t];have hv:=mod256 v;rw[Qx hv.1,QS (show (f.length:Int)≠0 by omega)];rcases UT a with ⟨e,h0,h1⟩| ⟨e,h0,h1⟩| ⟨e,h0,h1⟩| ⟨e,h0⟩| ⟨e,h0,h1⟩| ⟨e,h0,h1⟩| ⟨e,h0⟩<;>rw[e]
 ·rw[Zp h0,Zl (by omega)];rfl
 all_goals rfl
def Kn (x:ZF) (c:Zq) (v:Int):ZF:={x with ram:=x.ram.set (256+c.s%256).toNat (v%256)}
def Km (c:Zq):Zq:={c with s:=(c.s-1)%256}
def Yv (c:Zq):Zq:={c with s:=(c.s+1)%256}
def Yd (x:ZF) (c:Zq):Int:=rdE .i x.ram (256+(c.s+1)%256)
theorem UP {x:ZF} (h:JK x) (c:Zq) (v:Int):JK (Kn x c v):=⟨by simp[Kn,h.len],h.bytes.set _ (mod256 v)⟩
theorem UO {c:Zq} (h:ZO c):ZO (Km c):=⟨h.a,h.x,mod256 _,h.pc⟩
theorem WY {c:Zq} (h:ZO c):ZO (Yv c):=⟨h.a,h.x,mod256 _,h.pc⟩
theorem ZmH {x:ZF} (h:JK x) (c:Zq):0≤Yd x c∧Yd x c≤255:=by
 have:=mod256 (c.s+1);have hl:=h.len;exact h.bytes _ (XI (e:= .i) (by omega) (by omega))
theorem ZbA (x:ZF) (c:Zq) (v:Int) (h:JK x) (hc:ZO c):r254 (x.t,(c.t,(v,())))=some ((),((Kn x c v).t,((Km c).t,()))):=by
 have hl:=h.len;have hs:=hc.s;unfold r254 m254 Kn Km;simp only[Xp,Zo,Zs,ZF.t,Zq.t];have h1:=mod256 c.s;rw[Ja (by omega),Zr (x:=256+c.s%256) (by omega) (by omega),Zp (by omega),Zl (by omega),Zr (x:=c.s-1) (by omega) (by omega)];rfl
theorem Zaq (x:ZF) (c:Zq) (v:Int) (h:JK x) (hc:ZO c):r281 (x.t,(c.t,(v,())))=some (((Kn x c v).t,((Km c).t,())),()):=by
 have hl:=h.len;have hs:=hc.s;unfold r281 m281 Kn Km;refine Za (Zdw x hl) ?_;simp only[QY,Zo,Zs,ZF.t,Zq.t];have h1:=mod256 c.s;rw[Ja (by omega),Zr (x:=256+c.s%256) (by omega) (by omega),Zp (by omega),Zl (by omega),Zr (x:=c.s-1) (by omega) (by omega)];rfl
theorem Zbz (x:ZF) (c:Zq) (h:JK x) (hc:ZO c):r309 (x.t,(c.t,()))=some ((Yd x c,()),(x.t,((Yv c).t,()))):=by
 have hl:=h.len;have hs:=hc.s;unfold r309 m309 Yd Yv;simp only[Xp,Zo,Zs,ZF.t,Zq.t];rw[Zr (x:=c.s+1) (by omega) (by omega)];have h1:=mod256 (c.s+1);rw[Ja (by omega),Zr (x:=256+(c.s+1)%256) (by omega) (by omega),Zp (by omega),Zl (by omega)];rfl
theorem ZbP (x:ZF) (c:Zq) (h:JK x) (hc:ZO c):r289 (x.t,(c.t,()))=some (((Yv c).t,(Yd x c,())),()):=by
 have hl:=h.len;have hs:=hc.s;have hb:=ZmH h c;unfold Yd at hb;unfold r289 m289 Yd Yv;simp only[QY,Zo,Zs,ZF.t,Zq.t];rw[Zr (x:=c.s+1) (by omega) (by omega)];have h1:=mod256 (c.s+1);rw[Ja (by omega),Zr (x:=256+(c.s+1)%256) (by omega) (by omega),Zp (by omega),Zl (by omega)];rw[show (rdE .i x.ram (256+(c.s+1)%256):Int)%256=rdE .i x.ram (256+(c.s+1)%256)from Int.emod_eq_of_lt hb.1 (Int.lt_of_le_of_lt hb.2 (by decide))];rfl

end Go.Proofs.YtcbdldlphpjmbaaGreatDoor.Plain
