/- Plain laws of the printed functions: Cp, Obs, Lock, Ok, Ok2, Ok3, Copies, Bytes, Cpu. No condition beyond those that each lemma states. -/
import Derived.Test.YtgpifihakjdfeaaGreatW5
import Derived.Test.YtgpifihakjdfeaaGreatFn0
set_option linter.unusedVariables false
set_option linter.unusedSimpArgs false
namespace Go.Proofs.YtgpifihakjdfeaaGreat.Plain
open Go Go.Tev
def bulk:List (List Int)→Nat| []=>0|l::f=>l.length+bulk f
def small (f:List (List Int)):Prop:=f.length≤4398046511104∧(∀l,l∈f→l.length≤4398046511104)∧bulk f≤4398046511104
def left (n:Int) (k:Nat):Int:=if n< (k:Int)then-1 else n-(k:Int)
theorem begins_loop (a b:List Int) (h1:a.length≤4398046511104): ∀(k i:Nat),i≤a.length→i≤b.length→a.length-i<k→
  n91_0 k (a,(b,())) () ((i:Int),())=if (a.drop i).take (b.length-i)=(b.drop i).take (a.length-i)then some (Sum.inl (((min a.length b.length:Nat):Int),()),())else some (Sum.inr (false,()),())
 |0,_,_,_,h=>absurd h (by omega)
 |k+1,i,hi,hj,hk=>by
  unfold n91_0 w91_0
  simp only[lenI_def]
  by_cases h:i<a.length
  ·rw[ltI_t (show (i:Int)< (a.length:Int) by omega)]
   by_cases hb:i<b.length
   ·rw[ltI_t (by omega),leI_t (by omega),rdE_nat .i a i h,rdE_nat .i b i hb,wI_succ (by omega)]
    simp only[cond_true]
    rw[drop_cons' h,drop_cons' hb,show b.length-i=(b.length-(i+1))+1 by omega,show a.length-i=(a.length-(i+1))+1 by omega,List.take_succ_cons,List.take_succ_cons]
    by_cases hx:a[i]=b[i]
    ·rw[neI_f hx,cond_false,begins_loop a b h1 k (i+1) (by omega) (by omega) (by omega)]
     simp only[List.cons.injEq,hx,true_and]
    ·rw[neI_t hx,cond_true]
     simp only[List.cons.injEq,hx,false_and,if_false]
   ·have:i=b.length:=by omega
    subst this
    rw[ltI_f (by omega),cond_true,cond_false]
    simp only[Nat.sub_self,List.take_zero,List.drop_length,List.take_nil,if_true]
    rw[show min a.length b.length=b.length by omega]
  ·have:i=a.length:=by omega
   subst this
   rw[ltI_f (by omega),cond_false]
   simp only[Nat.sub_self,List.take_zero,List.drop_length,List.take_nil,if_true]
   rw[show min a.length b.length=a.length by omega]
def beg {α:Type} [DecidableEq α] (a b:List α):Bool:=decide (a.length≤b.length∧a=b.take a.length)
theorem begins_ok (a b:List Int) (h1:a.length≤4398046511104):r91 (a,(b,()))=some ((beg a b,()),()):=by
 unfold r91 m91 L91_0
 simp only[lenI_def]
 have:=begins_loop a b h1 fuel 0 (by omega) (by omega) (by have:=fuel_big;omega)
 simp only[Int.natCast_zero,List.drop_zero,Nat.sub_zero]at this
 rw[this]
 by_cases e:a.take b.length=b.take a.length
 ·rw[if_pos e]
  simp only[Option.bind_some,sumElim,leI_d,beg]
  by_cases hl:a.length≤b.length
  ·rw[List.take_of_length_le hl]at e
   rw[decide_eq_true (show (a.length:Int)≤(b.length:Int) by omega),decide_eq_true ⟨hl,e⟩]
  ·rw[decide_eq_false (show¬(a.length:Int)≤(b.length:Int) by omega),decide_eq_false (fun h=>hl h.1)]
 ·rw[if_neg e]
  simp only[Option.bind_some,sumElim,beg]
  rw[decide_eq_false]
  rintro ⟨hl,h⟩
  rw[List.take_of_length_le hl]at e
  exact e h
theorem beg_eq {α:Type} [DecidableEq α] {a b:List α} (h:a.length=b.length):beg a b=decide (a=b):=by
 unfold beg
 congr 1
 rw[eq_iff_iff]
 constructor
 ·rintro ⟨_,e⟩
  rw[e,h,List.take_length]
 ·rintro rfl
  simp
theorem same_ok (a b:List Int) (h1:a.length≤4398046511104):r92 (a,(b,()))=some ((decide (a=b),()),()):=by
 unfold r92 m92
 simp only[lenI_def]
 by_cases h:a.length=b.length
 ·rw[eqI_t (by omega),cond_true,begins_ok a b h1,beg_eq h]
  rfl
 ·rw[eqI_f (by omega),cond_false,decide_eq_false (fun e=>h (by rw[e]))]
theorem equal_loop (a b:List Int) (h1:a.length≤4398046511104) (hab:a.length=b.length): ∀(k i:Nat),i≤a.length→a.length-i<k→
  n77_0 k (a,(b,((a.length:Int),()))) () ((i:Int),())=if a.drop i=b.drop i then some (Sum.inl ((a.length:Int),()),())else some (Sum.inr (false,()),())
 |0,_,_,h=>absurd h (by omega)
 |k+1,i,hi,hk=>by
  unfold n77_0 w77_0
  simp only[lenI_def]
  by_cases h:i<a.length
  ·have hb:i<b.length:=by omega
   rw[ltI_t (by omega),leI_t (by omega),ltI_t (by omega),rdE_nat .i a i h,rdE_nat .i b i hb,wI_succ (by omega)]
   simp only[cond_true]
   rw[drop_cons' h,drop_cons' hb]
   by_cases hx:a[i]=b[i]
   ·rw[neI_f hx,cond_false,equal_loop a b h1 hab k (i+1) (by omega) (by omega)]
    simp only[List.cons.injEq,hx,true_and]
   ·rw[neI_t hx,cond_true]
    simp only[List.cons.injEq,hx,false_and,if_false]
  ·have:i=a.length:=by omega
   subst this
   rw[ltI_f (by omega)]
   simp[hab]
theorem equal_ok (a b:List Int) (h1:a.length≤4398046511104):r77 (a,(b,()))=some ((decide (a=b),()),()):=by
 unfold r77 m77 L77_0
 simp only[lenI_def]
 by_cases h:a.length=b.length
 ·have:=equal_loop a b h1 h fuel 0 (by omega) (by have:=fuel_big;omega)
  simp only[Int.natCast_zero,List.drop_zero]at this
  rw[neI_f (by omega),cond_false,this]
  by_cases e:a=b<;>simp[e,sumElim]
 ·rw[neI_t (by omega),cond_true]
  rw[show decide (a=b)=false from decide_eq_false (fun e=>h (by rw[e]))]
theorem equalF_loop (a b:List (List Int)) (h1:small a) (hab:a.length=b.length): ∀(k i:Nat),i≤a.length→a.length-i<k→
  n88_0 r89 k (b,((),(a,((a.length:Int),())))) () ((i:Int),())=if a.drop i=b.drop i then some (Sum.inl ((a.length:Int),()),())else some (Sum.inr (false,()),())
 |0,_,_,h=>absurd h (by omega)
 |k+1,i,hi,hk=>by
  unfold n88_0 w88_0
  simp only[lenI_def]
  have:=h1.1
  by_cases h:i<a.length
  ·have hb:i<b.length:=by omega
   rw[ltI_t (by omega),leI_t (by omega),ltI_t (by omega),rdE_nat .n a i h,rdE_nat .n b i hb,wI_succ (by omega)]
   rw[show r89 (a[i],(b[i],()))=some ((decide (a[i]=b[i]),()),()) by
    unfold r89 m89
    rw[equal_ok _ _ (h1.2.1 _ (List.getElem_mem h))]
    rfl]
   simp only[cond_true,Option.bind_some]
   rw[drop_cons' h,drop_cons' hb]
   by_cases hx:a[i]=b[i]
   ·rw[show (!decide (a[i]=b[i]))=false by simp[hx],cond_false,equalF_loop a b h1 hab k (i+1) (by omega) (by omega)]
    simp only[List.cons.injEq,hx,true_and]
   ·rw[show (!decide (a[i]=b[i]))=true by simpa using hx,cond_true]
    simp only[List.cons.injEq,hx,false_and,if_false]
  ·have:i=a.length:=by omega
   subst this
   rw[ltI_f (by omega)]
   simp[hab]
theorem equalF_ok (a b:List (List Int)) (h1:small a):r88 (a,(b,((),())))=some ((decide (a=b),()),()):=by
 unfold r88 m88 L88_0
 simp only[lenI_def]
 have:=h1.1
 by_cases h:a.length=b.length
 ·have:=equalF_loop a b h1 h fuel 0 (by omega) (by have:=fuel_big;omega)
  simp only[Int.natCast_zero,List.drop_zero]at this
  rw[neI_f (by omega),cond_false,this]
  by_cases e:a=b<;>simp[e,sumElim]
 ·rw[neI_t (by omega),cond_true]
  rw[show decide (a=b)=false from decide_eq_false (fun e=>h (by rw[e]))]
theorem frames_loop (a b:Tup [.sl false .n, .sl false .i, .sl false .i]) (h1:small a.1) (hab:a.1.length≤b.1.length): ∀(k i:Nat),i≤a.1.length→a.1.length-i<k→
  n31_0 r91 r92 k () (a,(b,())) ((i:Int),())=if a.1.drop i=(b.1.drop i).take (a.1.length-i)then some (Sum.inl ((a.1.length:Int),()),(a,(b,())))else some (Sum.inr (false,()),(a,(b,())))
 |0,_,_,h=>absurd h (by omega)
 |k+1,i,hi,hk=>by
  unfold n31_0 w31_0
  simp only[lenI_def]
  have:=h1.1
  by_cases h:i<a.1.length
  ·have hb:i<b.1.length:=by omega
   rw[ltI_t (show (i:Int)< (a.1.length:Int) by omega),leI_t (by omega),ltI_t (show (i:Int)< (b.1.length:Int) by omega),rdE_nat .n a.1 i h,rdE_nat .n b.1 i hb,wI_succ (by omega),same_ok _ _ (h1.2.1 _ (List.getElem_mem h))]
   simp only[cond_true,Option.bind_some]
   rw[drop_cons' h,drop_cons' hb,show a.1.length-i=(a.1.length-(i+1))+1 by omega,List.take_succ_cons]
   by_cases hx:a.1[i]=b.1[i]
   ·rw[show (!decide (a.1[i]=b.1[i]))=false by simp[hx],cond_false,frames_loop a b h1 hab k (i+1) (by omega) (by omega)]
    simp only[List.cons.injEq,hx,true_and]
   ·rw[show (!decide (a.1[i]=b.1[i]))=true by simpa using hx,cond_true]
    simp only[List.cons.injEq,hx,false_and,if_false]
  ·have:i=a.1.length:=by omega
   subst this
   rw[ltI_f (by omega)]
   simp
abbrev obsL:List LT:=[.sl false .n, .sl false .i, .sl false .i]
def obsOk (a:Tup obsL):Prop:=small a.1∧a.2.1.length≤4398046511104∧a.2.2.1.length≤4398046511104
def obsBeg (a b:Tup obsL):Bool:=beg a.1 b.1&&(beg a.2.1 b.2.1&&beg a.2.2.1 b.2.2.1)
def obsEq (a b:Tup obsL):Bool:=decide (a.1=b.1)&&(decide (a.2.1=b.2.1)&&decide (a.2.2.1=b.2.2.1))
theorem specBegins_ok (a b:Tup obsL) (ha:obsOk a):r31 (a,(b,()))=some ((obsBeg a b,()),()):=by
 unfold r31 m31 L31_0
 obtain ⟨h1,h2,h3⟩:=ha
 simp only[lenI_def]
 have:=h1.1
 by_cases h:b.1.length<a.1.length
 ·rw[ltI_t (by omega),cond_true]
  have:beg a.1 b.1=false:=decide_eq_false (fun hh=>by omega)
  simp only[obsBeg,this,Bool.false_and]
 ·rw[ltI_f (by omega),cond_false,begins_ok _ _ h2]
  simp only[Option.bind_some,obsBeg]
  cases e1:beg a.2.1 b.2.1 with
  |false=>simp
  |true=>
   simp only[Bool.not_true,cond_false]
   rw[begins_ok _ _ h3]
   simp only[Option.bind_some]
   cases e2:beg a.2.2.1 b.2.2.1 with
   |false=>simp
   |true=>
    have:=frames_loop a b h1 (by omega) fuel 0 (by omega) (by have:=fuel_big;omega)
    simp only[Int.natCast_zero,List.drop_zero,Nat.sub_zero]at this
    simp only[Bool.not_true,cond_false,this,Bool.and_true]
    by_cases e:a.1=b.1.take a.1.length
    ·rw[if_pos e]
     simp only[Option.bind_some,sumElim,beg]
     rw[decide_eq_true ⟨by omega,e⟩]
    ·rw[if_neg e]
     simp only[Option.bind_some,sumElim,beg]
     rw[decide_eq_false (fun hh=>e hh.2)]
theorem beg_both {α:Type} [DecidableEq α] (a b:List α):(beg a b&&beg b a)=decide (a=b):=by
 by_cases h:a.length=b.length
 ·rw[beg_eq h,beg_eq h.symm]
  by_cases e:a=b
  ·subst e;simp
  ·simp[e]
 ·rw[show decide (a=b)=false from decide_eq_false (fun e=>h (by rw[e]))]
  rcases Nat.lt_or_gt_of_ne h with h|h
  ·rw[show beg b a=false from decide_eq_false (fun hh=>by omega),Bool.and_false]
  ·rw[show beg a b=false from decide_eq_false (fun hh=>by omega),Bool.false_and]
theorem obsBeg_both (a b:Tup obsL):(obsBeg a b&&obsBeg b a)=obsEq a b:=by
 unfold obsBeg obsEq
 rw[←beg_both a.1 b.1,←beg_both a.2.1 b.2.1,←beg_both a.2.2.1 b.2.2.1]
 cases beg a.1 b.1<;>cases beg b.1 a.1<;>cases beg a.2.1 b.2.1<;>cases beg b.2.1 a.2.1<;>simp
theorem specSame_ok (a b:Tup obsL) (ha:obsOk a) (hb:obsOk b):r32 (a,(b,()))=some ((obsEq a b,()),()):=by
 unfold r32 m32
 rw[specBegins_ok a b ha]
 simp only[Option.bind_some]
 rw[←obsBeg_both]
 cases e:obsBeg a b with
 |false=>simp
 |true=>rw[cond_true,specBegins_ok b a hb];simp
theorem implSame_ok (a b:Tup obsL) (ha:obsOk a):r29 (a,(b,()))=some ((obsEq a b,()),()):=by
 unfold r29 m29
 obtain ⟨h1,h2,h3⟩:=ha
 rw[equalF_ok _ _ h1]
 simp only[Option.bind_some,obsEq]
 by_cases e1:a.1=b.1
 ·rw[decide_eq_true e1,cond_true,equal_ok _ _ h2]
  simp only[Option.bind_some]
  by_cases e2:a.2.1=b.2.1
  ·rw[decide_eq_true e2,cond_true,equal_ok _ _ h3]
   simp
  ·rw[decide_eq_false e2]
   simp
 ·rw[decide_eq_false e1]
  simp
theorem beg_take {α:Type} [DecidableEq α] (a b:List α) (h:a.length≤b.length):decide (a=b.take a.length)=beg a b:=by
 unfold beg
 congr 1
 rw[eq_iff_iff]
 exact ⟨fun e=>⟨h,e⟩,fun e=>e.2⟩
theorem implBegins_ok (a b:Tup obsL) (ha:obsOk a):r19 (a,(b,()))=some ((obsBeg a b,()),()):=by
 unfold r19 m19
 simp only[lenI_def,Int.toNat_natCast]
 by_cases h1:b.1.length<a.1.length
 ·rw[ltI_t (by omega),cond_true]
  simp[obsBeg,show beg a.1 b.1=false from decide_eq_false (fun hh=>by omega)]
 rw[ltI_f (by omega),cond_false]
 by_cases h2:b.2.1.length<a.2.1.length
 ·rw[ltI_t (by omega),cond_true]
  simp[obsBeg,show beg a.2.1 b.2.1=false from decide_eq_false (fun hh=>by omega)]
 rw[ltI_f (by omega),cond_false]
 by_cases h3:b.2.2.1.length<a.2.2.1.length
 ·rw[ltI_t (by omega),cond_true]
  simp[obsBeg,show beg a.2.2.1 b.2.2.1=false from decide_eq_false (fun hh=>by omega)]
 rw[ltI_f (by omega),cond_false,leI_t (by omega),leI_t (by omega),leI_t (by omega)]
 simp only[cond_true]
 rw[implSame_ok _ _ ha]
 simp only[Option.bind_some,obsEq,obsBeg]
 rw[beg_take _ _ (by omega),beg_take _ _ (by omega),beg_take _ _ (by omega)]
theorem obsEq_self (a:Tup obsL):obsEq a a=true:=by simp[obsEq]
abbrev memL:List LT:=[.sl false .i, .int .i64]
abbrev cpuL:List LT:=[.int .i64, .int .i64, .int .i64, .int .i64, .bool, .bool, .bool, .bool]
abbrev ppuL:List LT:=[.int .i64, .int .i64, .int .i64, .int .i64, .int .i64, .bool, .sl false .i, .sl false .i]
abbrev apuL:List LT:=[.int .i64, .int .i64, .int .i64, .int .i64, .int .i64, .bool, .bool]
abbrev padL:List LT:=[.bool, .int .i64]
abbrev lockL:List LT:= .sl false .n:: .sl false .i::(memL++(cpuL++(ppuL++(apuL++(padL++(.bool:: .int .i64::obsL))))))
def ppuOkS (a:Tup ppuL):Prop:=a.2.2.2.2.2.2.1.length≤4398046511104∧a.2.2.2.2.2.2.2.1.length≤4398046511104
section
variable (a:Tup lockL)
abbrev lkMem:Tup memL:=(a.2.2.1,(a.2.2.2.1,()))
abbrev lkCpu:Tup cpuL:=(a.2.2.2.2.1,(a.2.2.2.2.2.1,(a.2.2.2.2.2.2.1,(a.2.2.2.2.2.2.2.1,(a.2.2.2.2.2.2.2.2.1,(a.2.2.2.2.2.2.2.2.2.1,(a.2.2.2.2.2.2.2.2.2.2.1,(a.2.2.2.2.2.2.2.2.2.2.2.1,()))))))))
abbrev lkPpu:Tup ppuL:=(a.2.2.2.2.2.2.2.2.2.2.2.2.1,(a.2.2.2.2.2.2.2.2.2.2.2.2.2.1,(a.2.2.2.2.2.2.2.2.2.2.2.2.2.2.1,(a.2.2.2.2.2.2.2.2.2.2.2.2.2.2.2.1,(a.2.2.2.2.2.2.2.2.2.2.2.2.2.2.2.2.1,(a.2.2.2.2.2.2.2.2.2.2.2.2.2.2.2.2.2.1,(a.2.2.2.2.2.2.2.2.2.2.2.2.2.2.2.2.2.2.1,(a.2.2.2.2.2.2.2.2.2.2.2.2.2.2.2.2.2.2.2.1,()))))))))
abbrev lkApu:Tup apuL:=(a.2.2.2.2.2.2.2.2.2.2.2.2.2.2.2.2.2.2.2.2.1,(a.2.2.2.2.2.2.2.2.2.2.2.2.2.2.2.2.2.2.2.2.2.1,(a.2.2.2.2.2.2.2.2.2.2.2.2.2.2.2.2.2.2.2.2.2.2.1,(a.2.2.2.2.2.2.2.2.2.2.2.2.2.2.2.2.2.2.2.2.2.2.2.1,(a.2.2.2.2.2.2.2.2.2.2.2.2.2.2.2.2.2.2.2.2.2.2.2.2.1,(a.2.2.2.2.2.2.2.2.2.2.2.2.2.2.2.2.2.2.2.2.2.2.2.2.2.1,(a.2.2.2.2.2.2.2.2.2.2.2.2.2.2.2.2.2.2.2.2.2.2.2.2.2.2.1,())))))))
abbrev lkPad:Tup padL:=(a.2.2.2.2.2.2.2.2.2.2.2.2.2.2.2.2.2.2.2.2.2.2.2.2.2.2.2.1,(a.2.2.2.2.2.2.2.2.2.2.2.2.2.2.2.2.2.2.2.2.2.2.2.2.2.2.2.2.1,()))
abbrev lkObs:Tup obsL:=a.2.2.2.2.2.2.2.2.2.2.2.2.2.2.2.2.2.2.2.2.2.2.2.2.2.2.2.2.2.2.2
end
def cpuEq (a b:Tup cpuL):Bool:=eqI a.1 b.1&&(eqI a.2.1 b.2.1&&(eqI a.2.2.1 b.2.2.1&&(eqI a.2.2.2.1 b.2.2.2.1&&((a.2.2.2.2.1==b.2.2.2.2.1)&&((a.2.2.2.2.2.1==b.2.2.2.2.2.1)&&((a.2.2.2.2.2.2.1==b.2.2.2.2.2.2.1)&&((a.2.2.2.2.2.2.2.1==b.2.2.2.2.2.2.2.1)&&true)))))))
def apuEq (a b:Tup apuL):Bool:=eqI a.1 b.1&&(eqI a.2.1 b.2.1&&(eqI a.2.2.1 b.2.2.1&&(eqI a.2.2.2.1 b.2.2.2.1&&(eqI a.2.2.2.2.1 b.2.2.2.2.1&&((a.2.2.2.2.2.1==b.2.2.2.2.2.1)&&((a.2.2.2.2.2.2.1==b.2.2.2.2.2.2.1)&&true))))))
def padEq (a b:Tup padL):Bool:=(a.1==b.1)&&(eqI a.2.1 b.2.1&&true)
def memEq (a b:Tup memL):Bool:=eqI a.2.1 b.2.1&&decide (a.1=b.1)
def ppuEq (a b:Tup ppuL):Bool:=eqI a.1 b.1&&(eqI a.2.1 b.2.1&&(eqI a.2.2.1 b.2.2.1&&(eqI a.2.2.2.1 b.2.2.2.1&&(eqI a.2.2.2.2.1 b.2.2.2.2.1&&((a.2.2.2.2.2.1==b.2.2.2.2.2.1)&&(decide (a.2.2.2.2.2.2.1=b.2.2.2.2.2.2.1)&&decide (a.2.2.2.2.2.2.2.1=b.2.2.2.2.2.2.2.1)))))))
def lockOkS (a:Tup lockL):Prop:=small a.1∧a.2.1.length≤4398046511104∧a.2.2.1.length≤4398046511104∧ppuOkS (lkPpu a)∧obsOk (lkObs a)
theorem memSame_ok (a b:Tup memL) (h:a.1.length≤4398046511104):r76 (a,(b,()))=some ((memEq a b,()),()):=by
 unfold r76 m76
 rw[equal_ok _ _ h]
 simp only[Option.bind_some,cond_and]
 rfl
theorem ppuSame_ok (a b:Tup ppuL) (h:ppuOkS a):r85 (a,(b,()))=some ((ppuEq a b,()),()):=by
 unfold r85 m85
 rw[equal_ok _ _ h.1]
 rw[show r77 (a.2.2.2.2.2.2.2.1,b.2.2.2.2.2.2.2)=some ((decide (a.2.2.2.2.2.2.2.1=b.2.2.2.2.2.2.2.1),()),())from equal_ok _ _ h.2]
 simp only[Option.bind_some,cond_and]
 rfl
theorem specPpu_ok (a b:Tup ppuL) (h:ppuOkS a):r96 (a,(b,()))=some ((ppuEq a b,()),()):=by
 unfold r96 m96
 rw[same_ok _ _ h.1]
 rw[show r92 (a.2.2.2.2.2.2.2.1,b.2.2.2.2.2.2.2)=some ((decide (a.2.2.2.2.2.2.2.1=b.2.2.2.2.2.2.2.1),()),())from same_ok _ _ h.2]
 simp only[Option.bind_some,cond_and]
 rfl
def lockEq (a b:Tup lockL):Bool:=
 cpuEq (lkCpu a) (lkCpu b)&&(apuEq (lkApu a) (lkApu b)&&(padEq (lkPad a) (lkPad b)&&((a.2.2.2.2.2.2.2.2.2.2.2.2.2.2.2.2.2.2.2.2.2.2.2.2.2.2.2.2.2.1==b.2.2.2.2.2.2.2.2.2.2.2.2.2.2.2.2.2.2.2.2.2.2.2.2.2.2.2.2.2.1)&&
  (eqI a.2.2.2.2.2.2.2.2.2.2.2.2.2.2.2.2.2.2.2.2.2.2.2.2.2.2.2.2.2.2.1 b.2.2.2.2.2.2.2.2.2.2.2.2.2.2.2.2.2.2.2.2.2.2.2.2.2.2.2.2.2.2.1&&(memEq (lkMem a) (lkMem b)&&(ppuEq (lkPpu a) (lkPpu b)&&obsEq (lkObs a) (lkObs b)))))))
theorem implLockSame_ok (a b:Tup lockL) (h:lockOkS a):r26 (a,(b,()))=some ((lockEq a b,()),()):=by
 unfold r26 m26
 obtain ⟨_,_,h3,h4,h5⟩:=h
 simp only[memSame_ok (lkMem a) (lkMem b) h3,ppuSame_ok (lkPpu a) (lkPpu b) h4,implSame_ok (lkObs a) (lkObs b) h5,Option.bind_some,cond_and]
 rfl
def inR (lo hi n:Int):Bool:=leI lo n&&leI n hi
def allR (lo hi:Int) (l:List Int):Bool:=l.all (inR lo hi)
theorem inR_iff {lo hi n:Int}:inR lo hi n=true↔lo≤n∧n≤hi:=by simp[inR,leI]
theorem l1In_ok (y:PTup i116):r116 y=some ((inR y.2.1 y.2.2.1 y.1,()),()):=by
 unfold r116 m116
 simp only[cond_and]
 rfl
theorem l5Byte_ok (y:PTup i115):r115 y=some ((inR 0 255 y.1,()),()):=by
 unfold r115 m115
 simp only[l1In_ok,Option.bind_some]
def padsOk (l:List Int):Bool:=leI (l.length:Int) 20&&allR 0 255 l
theorem specPadsOk_ok (l:List Int) (hl:l.length≤4611686018427387904):r110 (l,())=some ((padsOk l,()),()):=by
 have key:=all_list_loop (fun k i=>n110_0 r115 k (l,()) () ((i:Int),())) l (inR 0 255) (Sum.inl ((l.length:Int),()),()) (Sum.inr (false,()),())
  (fun k i h hq=>by
   simp only[n110_0,w110_0,lenI_def]
   rw[ltI_t (by omega),leI_t (by omega),rdE_nat .i l i h,l5Byte_ok,wI_succ (by omega)]
   simp only[cond_true,Option.bind_some,hq,Bool.not_true,cond_false])
  (fun k i h hq=>by
   simp only[n110_0,w110_0,lenI_def]
   rw[ltI_t (by omega),leI_t (by omega),rdE_nat .i l i h,l5Byte_ok]
   simp only[cond_true,Option.bind_some,hq,Bool.not_false])
  (fun k=>by
   simp only[n110_0,w110_0,lenI_def]
   rw[ltI_f (by omega)];rfl) fuel 0 (by omega) (by have:=fuel_big;omega)
 unfold r110 m110 L110_0
 simp only[lenI_def]
 simp only[Int.natCast_zero,List.drop_zero]at key
 rw[key]
 unfold padsOk allR
 cases l.all (inR 0 255)<;>simp[sumElim]
def bankOk (l:List Int):Bool:=eqI (l.length:Int) 256&&allR 0 255 l
def imageOk (f:List (List Int)):Bool:=f.all bankOk&&inR 1 8 (f.length:Int)
theorem specBank_loop (f:List (List Int)) (i:Nat) (h:i<f.length) (hl:(f[i].length:Int)=256):
  L181_0 ((i:Int),()) ((f,()),()) ((0:Int),())=some (if f[i].all (inR 0 255)then (Sum.inl ((256:Int),()),((f,()),()))else (Sum.inr (false,()),((f,()),()))):=by
 have key:=all_list_loop (fun k j=>n181_0 r116 k ((i:Int),()) ((f,()),()) ((j:Int),())) f[i] (inR 0 255) (Sum.inl ((256:Int),()),((f,()),())) (Sum.inr (false,()),((f,()),()))
  (fun k j hj hq=>by
   simp only[n181_0,w181_0,lenI_def]
   rw[rdE_nat .n f i h,ltI_t (show (j:Int)<256 by omega),leI_t (show (0:Int)≤(i:Int) by omega),ltI_t (show (i:Int)< (f.length:Int) by omega),leI_t (show (0:Int)≤(j:Int) by omega),ltI_t (by omega),wI_succ (by omega),
    show rdI f[i] (j:Int)=f[i][j] by simp[rdI,List.getD,hj],l1In_ok]
   simp only[cond_true,Option.bind_some,hq,Bool.not_true,cond_false])
  (fun k j hj hq=>by
   simp only[n181_0,w181_0,lenI_def]
   rw[rdE_nat .n f i h,ltI_t (show (j:Int)<256 by omega),leI_t (show (0:Int)≤(i:Int) by omega),ltI_t (show (i:Int)< (f.length:Int) by omega),leI_t (show (0:Int)≤(j:Int) by omega),ltI_t (by omega),
    show rdI f[i] (j:Int)=f[i][j] by simp[rdI,List.getD,hj],l1In_ok]
   simp only[cond_true,Option.bind_some,hq,Bool.not_false])
  (fun k=>by
   simp only[n181_0,w181_0,lenI_def]
   rw[ltI_f (by omega)]
   simp only[cond_false,hl]) fuel 0 (by omega) (by have:=fuel_big;omega)
 exact key
theorem specImageOk_ok (f:List (List Int)) (hf:small f):r181 ((f,()),())=some ((imageOk f,()),()):=by
 have h0:=hf.1
 have key:=all_list_loop (fun k i=>n181_1 r116 L181_0 k () ((f,()),()) ((i:Int),())) f bankOk (Sum.inl ((f.length:Int),()),((f,()),())) (Sum.inr (false,()),((f,()),()))
  (fun k i h hq=>by
   simp only[bankOk,Bool.and_eq_true,allR]at hq
   have h1:(f[i].length:Int)=256:=by simpa [eqI_d] using hq.1
   simp only[n181_1,w181_1,lenI_def]
   rw[ltI_t (by omega),leI_t (by omega),rdE_nat .n f i h,wI_succ (by omega),neI_f h1,specBank_loop f i h h1,hq.2]
   simp only[cond_true,cond_false,Option.bind_some,if_true,sumElim])
  (fun k i h hq=>by
   simp only[n181_1,w181_1,lenI_def]
   rw[ltI_t (by omega),leI_t (by omega),rdE_nat .n f i h]
   by_cases h1:(f[i].length:Int)=256
   ·rw[neI_f h1,specBank_loop f i h h1]
    simp only[bankOk,eqI_t h1,Bool.true_and,allR]at hq
    rw[hq]
    simp only[cond_true,cond_false,Option.bind_some,sumElim,Bool.false_eq_true,if_false]
   ·rw[neI_t h1]
    simp only[cond_true])
  (fun k=>by
   simp only[n181_1,w181_1,lenI_def]
   rw[ltI_f (by omega)];rfl) fuel 0 (by omega) (by have:=fuel_big;omega)
 unfold r181 m181 L181_1
 simp only[lenI_def]
 simp only[Int.natCast_zero,List.drop_zero]at key
 rw[key]
 unfold imageOk
 cases f.all bankOk<;>simp[sumElim,l1In_ok]
def memOk (f:List (List Int)) (x:Tup memL):Bool:=imageOk f&&(eqI (x.1.length:Int) 512&&(allR 0 255 x.1&&inR 0 ((f.length:Int)-1) x.2.1))
theorem specMemOk_ok (f:List (List Int)) (x:Tup memL) (hf:small f) (hx:x.1.length≤4398046511104):r111 ((f,()),(x,()))=some ((memOk f x,()),()):=by
 unfold r111 m111
 have:=hf.1
 simp only[specImageOk_ok f hf,l1In_ok,Option.bind_some,lenI_def]
 rw[wI_id (by omega) (by omega)]
 unfold memOk
 cases imageOk f with
 |false=>rfl
 |true=>
  simp only[Bool.not_true,cond_false,Bool.true_and]
  by_cases h1:(x.1.length:Int)=512
  ·rw[neI_f h1,eqI_t h1]
   simp only[cond_false,Bool.true_and]
   cases h2:inR 0 ((f.length:Int)-1) x.2.1 with
   |false=>simp
   |true=>
    have key:=all_list_loop (fun k i=>n111_0 r181 r116 r115 k () (x,()) ((i:Int),())) x.1 (inR 0 255) (Sum.inl ((512:Int),()),(x,())) (Sum.inr (false,()),(x,()))
     (fun k i h hq=>by
      simp only[n111_0,w111_0,lenI_def]
      rw[ltI_t (show (i:Int)<512 by omega),leI_t (by omega),ltI_t (by omega),rdE_nat .i x.1 i h,l5Byte_ok,wI_succ (by omega)]
      simp only[cond_true,Option.bind_some,hq,Bool.not_true,cond_false])
     (fun k i h hq=>by
      simp only[n111_0,w111_0,lenI_def]
      rw[ltI_t (show (i:Int)<512 by omega),leI_t (by omega),ltI_t (by omega),rdE_nat .i x.1 i h,l5Byte_ok]
      simp only[cond_true,Option.bind_some,hq,Bool.not_false])
     (fun k=>by
      simp only[n111_0,w111_0,lenI_def]
      rw[ltI_f (by omega)]
      simp only[cond_false,h1]) fuel 0 (by omega) (by have:=fuel_big;omega)
    unfold L111_0
    simp only[Int.natCast_zero,List.drop_zero]at key
    simp only[Bool.not_true,cond_false]
    rw[key]
    unfold allR
    cases x.1.all (inR 0 255)<;>simp[sumElim]
  ·rw[neI_t h1,eqI_f h1]
   rfl
def cpuOk (c:Tup cpuL):Bool:=inR 0 255 c.1&&(inR 0 255 c.2.1&&(inR 0 255 c.2.2.1&&inR 0 65535 c.2.2.2.1))
theorem specCpuOk_ok (c:Tup cpuL):r112 (c,())=some ((cpuOk c,()),()):=by
 unfold r112 m112
 simp only[l5Byte_ok,l1In_ok,Option.bind_some,cond_and]
 rfl
def apuOk (a:Tup apuL):Bool:=inR 0 20000 a.1&&(inR 0 255 a.2.1&&(inR 0 255 a.2.2.1&&(inR 0 1 a.2.2.2.1&&inR 0 31 a.2.2.2.2.1)))
theorem specApuOk_ok (a:Tup apuL):r114 (a,())=some ((apuOk a,()),()):=by
 unfold r114 m114
 simp only[l5Byte_ok,l1In_ok,Option.bind_some,cond_and]
 rfl
def dotsN (t:Int):Int:=if 48<Int.tmod t 64 then 0 else Int.tmod t 64
def ppuNum (p:Tup ppuL):Bool:=inR 0 20000 p.1&&(inR 0 255 p.2.1&&(inR 0 255 p.2.2.1&&(inR 0 15 p.2.2.2.1&&inR 0 63 p.2.2.2.2.1)))
def ppuRows (p:Tup ppuL):Bool:=eqI (p.2.2.2.2.2.2.1.length:Int) 16&&(allR 0 63 p.2.2.2.2.2.2.1&&(eqI (p.2.2.2.2.2.2.2.1.length:Int) (dotsN p.1)&&allR 0 63 p.2.2.2.2.2.2.2.1))
def ppuOk (p:Tup ppuL):Bool:=ppuNum p&&ppuRows p
theorem specTable_ok (p:Tup ppuL) (h16:(p.2.2.2.2.2.2.1.length:Int)=16):
  L113_1 () (p,()) ((0:Int),())=some (if p.2.2.2.2.2.2.1.all (inR 0 63)then (Sum.inl ((16:Int),()),(p,()))else (Sum.inr (false,()),(p,()))):=by
 have key:=all_list_loop (fun k i=>n113_1 r116 r115 r182 L113_0 k () (p,()) ((i:Int),())) p.2.2.2.2.2.2.1 (inR 0 63) (Sum.inl ((16:Int),()),(p,())) (Sum.inr (false,()),(p,()))
  (fun k i h hq=>by
   simp only[n113_1,w113_1,lenI_def]
   rw[ltI_t (show (i:Int)<16 by omega),leI_t (by omega),ltI_t (by omega),rdE_nat .i p.2.2.2.2.2.2.1 i h,l1In_ok,wI_succ (by omega)]
   simp only[cond_true,Option.bind_some,hq,Bool.not_true,cond_false])
  (fun k i h hq=>by
   simp only[n113_1,w113_1,lenI_def]
   rw[ltI_t (show (i:Int)<16 by omega),leI_t (by omega),ltI_t (by omega),rdE_nat .i p.2.2.2.2.2.2.1 i h,l1In_ok]
   simp only[cond_true,Option.bind_some,hq,Bool.not_false])
  (fun k=>by
   simp only[n113_1,w113_1,lenI_def]
   rw[ltI_f (by omega)]
   simp only[cond_false,h16]) fuel 0 (by omega) (by have:=fuel_big;omega)
 exact key
theorem specDots_ok (p:Tup ppuL) (hl:p.2.2.2.2.2.2.2.1.length≤4398046511104):
  L113_0 () (p,()) ((0:Int),())=some (if p.2.2.2.2.2.2.2.1.all (inR 0 63)then (Sum.inl ((p.2.2.2.2.2.2.2.1.length:Int),()),(p,()))else (Sum.inr (false,()),(p,()))):=by
 have key:=all_list_loop (fun k i=>n113_0 r116 r115 r182 k () (p,()) ((i:Int),())) p.2.2.2.2.2.2.2.1 (inR 0 63) (Sum.inl ((p.2.2.2.2.2.2.2.1.length:Int),()),(p,())) (Sum.inr (false,()),(p,()))
  (fun k i h hq=>by
   simp only[n113_0,w113_0,lenI_def]
   rw[ltI_t (show (i:Int)<_ by omega),leI_t (by omega),rdE_nat .i p.2.2.2.2.2.2.2.1 i h,l1In_ok,wI_succ (by omega)]
   simp only[cond_true,Option.bind_some,hq,Bool.not_true,cond_false])
  (fun k i h hq=>by
   simp only[n113_0,w113_0,lenI_def]
   rw[ltI_t (show (i:Int)<_ by omega),leI_t (by omega),rdE_nat .i p.2.2.2.2.2.2.2.1 i h,l1In_ok]
   simp only[cond_true,Option.bind_some,hq,Bool.not_false])
  (fun k=>by
   simp only[n113_0,w113_0,lenI_def]
   rw[ltI_f (by omega)]
   rfl) fuel 0 (by omega) (by have:=fuel_big;omega)
 exact key
theorem specPpuOk_ok (p:Tup ppuL) (h:ppuOkS p):r113 (p,())=some ((ppuOk p,()),()):=by
 unfold r113 m113
 obtain ⟨h1,h2⟩:=h
 have hd:r182 (p.1,())=some ((dotsN p.1,()),()):=by
  unfold r182 m182 dotsN
  by_cases h48:48<Int.tmod p.1 64
  ·simp only[ltI_t h48,cond_true,h48,if_true]
  ·simp only[ltI_f h48,cond_false,h48,if_false]
 have hrest:(bif neI (p.2.2.2.2.2.2.1.length:Int) 16 then some ((false,()),())else
   bif neI (p.2.2.2.2.2.2.2.1.length:Int) (dotsN p.1)then some ((false,()),())
   else (L113_1 () (p,()) ((0:Int),())).bind fun r6=>sumElim r6.1 (fun r7=>(L113_0 () ((r6.2.1.1,(r6.2.1.2.1,(r6.2.1.2.2.1,(r6.2.1.2.2.2.1,(r6.2.1.2.2.2.2.1,(r6.2.1.2.2.2.2.2.1,p.2.2.2.2.2.2)))))),()) ((0:Int),())).bind fun r8=>
    sumElim r8.1 (fun r9=>some ((true,()),())) (fun r9=>some (r9,()))) (fun r7=>some (r7,())))=some ((ppuRows p,()),()):=by
  unfold ppuRows
  by_cases h16:(p.2.2.2.2.2.2.1.length:Int)=16
  ·rw[neI_f h16,eqI_t h16,cond_false]
   by_cases hdn:(p.2.2.2.2.2.2.2.1.length:Int)=dotsN p.1
   ·rw[neI_f hdn,eqI_t hdn,cond_false,specTable_ok p h16]
    unfold allR
    cases p.2.2.2.2.2.2.1.all (inR 0 63)with
    |false=>rfl
    |true=>
     simp only[if_true,Option.bind_some,sumElim]
     rw[show ((p.1,(p.2.1,(p.2.2.1,(p.2.2.2.1,(p.2.2.2.2.1,(p.2.2.2.2.2.1,p.2.2.2.2.2.2)))))):Tup ppuL)=p from rfl,specDots_ok p h2]
     cases p.2.2.2.2.2.2.2.1.all (inR 0 63)<;>rfl
   ·rw[neI_t hdn,eqI_f hdn,cond_true]
    simp
  ·rw[neI_t h16,eqI_f h16,cond_true]
   rfl
 simp only[l1In_ok,l5Byte_ok,hd,lenI_def,Option.bind_some]
 rw[hrest]
 simp only[cond_nand]
 unfold ppuOk ppuNum
 simp only[Bool.and_assoc]
abbrev ringL:List LT:=[.int .i64, .sl false .t]
def framesOk (f:List (List Int)) (t:Int):Bool:=f.all (fun l=>eqI (l.length:Int) 48)&&eqI (f.length:Int) (Int.tdiv (t+15) 64)
theorem tdiv_id {t c d:Int} (h0:0≤t) (h1:t≤20000) (hc:0≤c) (hc2:c≤64) (hd:d=64∨d=16):wI (Int.tdiv (t+c) d)=Int.tdiv (t+c) d:=by
 rw[Int.tdiv_eq_ediv_of_nonneg (by omega)]
 rcases hd with rfl|rfl<;>exact wI_id (by omega) (by omega)
theorem specFramesOk_ok (f:List (List Int)) (t:Int) (hf:f.length≤4398046511104) (h0:0≤t) (h1:t≤20000):r117 (f,(t,()))=some ((framesOk f t,()),()):=by
 have key:=all_list_loop (fun k i=>n117_0 r183 k (f,()) () ((i:Int),())) f (fun l=>eqI (l.length:Int) 48) (Sum.inl ((f.length:Int),()),()) (Sum.inr (false,()),())
  (fun k i h hq=>by
   simp only[n117_0,w117_0,lenI_def]
   rw[ltI_t (by omega),leI_t (by omega),rdE_nat .n f i h,wI_succ (by omega)]
   have:(f[i].length:Int)=48:=by simpa [eqI_d] using hq
   rw[neI_f this]
   simp only[cond_true,cond_false])
  (fun k i h hq=>by
   simp only[n117_0,w117_0,lenI_def]
   rw[ltI_t (by omega),leI_t (by omega),rdE_nat .n f i h]
   have: ¬(f[i].length:Int)=48:=by simpa [eqI_d] using hq
   rw[neI_t this]
   simp only[cond_true])
  (fun k=>by
   simp only[n117_0,w117_0,lenI_def]
   rw[ltI_f (by omega)];rfl) fuel 0 (by omega) (by have:=fuel_big;omega)
 unfold r117 m117 L117_0
 simp only[lenI_def]
 simp only[Int.natCast_zero,List.drop_zero]at key
 rw[key]
 unfold framesOk
 cases f.all (fun l=>eqI (l.length:Int) 48)with
 |false=>rfl
 |true=>
  have hc:r183 (t,())=some ((Int.tdiv (t+15) 64,()),()):=by
   unfold r183 m183
   simp only
   rw[wI_id (x:=t+64) (by omega) (by omega),wI_id (x:=t+64-48) (by omega) (by omega),wI_id (x:=t+64-48-1) (by omega) (by omega),show t+64-48-1=t+15 by omega,tdiv_id h0 h1 (by omega) (by omega) (.inl rfl)]
  simp only[if_true,Option.bind_some,sumElim,hc,Bool.true_and]
def samplesOk (s:List Int) (t:Int):Bool:=eqI (s.length:Int) (Int.tdiv t 16)
abbrev picL:List LT:=ppuL++(ringL++[.sl false .n])
abbrev sndL:List LT:=apuL++(ringL++[.sl false .i])
abbrev pcPpu (w:Tup picL):Tup ppuL:=(w.1,(w.2.1,(w.2.2.1,(w.2.2.2.1,(w.2.2.2.2.1,(w.2.2.2.2.2.1,(w.2.2.2.2.2.2.1,(w.2.2.2.2.2.2.2.1,()))))))))
abbrev pcRing (w:Tup picL):Tup ringL:=(w.2.2.2.2.2.2.2.2.1,(w.2.2.2.2.2.2.2.2.2.1,()))
abbrev sdRing (w:Tup sndL):Tup ringL:=(w.2.2.2.2.2.2.2.1,(w.2.2.2.2.2.2.2.2.1,()))
def picOkS (w:Tup picL):Prop:=ppuOkS (pcPpu w)∧(pcRing w).2.1.length≤4398046511104∧small w.2.2.2.2.2.2.2.2.2.2.1
def sndOkS (w:Tup sndL):Prop:=(sdRing w).2.1.length≤4398046511104∧w.2.2.2.2.2.2.2.2.2.1.length≤4398046511104
abbrev splitL:List LT:= .sl false .n:: .sl false .i::(memL++(cpuL++(padL++(.int .i64:: .bool:: .int .i64:: .bool:: .int .i64:: .int .i64:: .sl false .i::(picL++sndL)))))
section
variable (s:Tup splitL)
abbrev spImg:List (List Int):=s.1
abbrev spPads:List Int:=s.2.1
abbrev spMem:Tup memL:=(s.2.2.1,(s.2.2.2.1,()))
abbrev spReads:List Int:=s.2.2.2.2.2.2.2.2.2.2.2.2.2.2.2.2.2.2.2.2.1
abbrev spPic:Tup picL:=(s.2.2.2.2.2.2.2.2.2.2.2.2.2.2.2.2.2.2.2.2.2.1,(s.2.2.2.2.2.2.2.2.2.2.2.2.2.2.2.2.2.2.2.2.2.2.1,(s.2.2.2.2.2.2.2.2.2.2.2.2.2.2.2.2.2.2.2.2.2.2.2.1,(s.2.2.2.2.2.2.2.2.2.2.2.2.2.2.2.2.2.2.2.2.2.2.2.2.1,(s.2.2.2.2.2.2.2.2.2.2.2.2.2.2.2.2.2.2.2.2.2.2.2.2.2.1,(s.2.2.2.2.2.2.2.2.2.2.2.2.2.2.2.2.2.2.2.2.2.2.2.2.2.2.1,(s.2.2.2.2.2.2.2.2.2.2.2.2.2.2.2.2.2.2.2.2.2.2.2.2.2.2.2.1,(s.2.2.2.2.2.2.2.2.2.2.2.2.2.2.2.2.2.2.2.2.2.2.2.2.2.2.2.2.1,(s.2.2.2.2.2.2.2.2.2.2.2.2.2.2.2.2.2.2.2.2.2.2.2.2.2.2.2.2.2.1,(s.2.2.2.2.2.2.2.2.2.2.2.2.2.2.2.2.2.2.2.2.2.2.2.2.2.2.2.2.2.2.1,(s.2.2.2.2.2.2.2.2.2.2.2.2.2.2.2.2.2.2.2.2.2.2.2.2.2.2.2.2.2.2.2.1,())))))))))))
abbrev spSnd:Tup sndL:=s.2.2.2.2.2.2.2.2.2.2.2.2.2.2.2.2.2.2.2.2.2.2.2.2.2.2.2.2.2.2.2.2
end
def splitOkS (s:Tup splitL):Prop:=small (spImg s)∧(spPads s).length≤4398046511104∧(spMem s).1.length≤4398046511104∧(spReads s).length≤4398046511104∧picOkS (spPic s)∧sndOkS (spSnd s)
theorem l12Image_ok (f:List (List Int)) (h:small f):r101 ((f,()),())=some (((f,()),()),()):=by
 have h0:=h.1
 have key:=app_list_loop (fun k i out=>n101_0 k () ((f,()),((out,()),())) ((i:Int),())) f (fun out=>(Sum.inl ((f.length:Int),()),((f,()),((out,()),()))))
  (fun k i out hi ho=>by
   have hl:=h.2.1 _ (List.getElem_mem hi)
   simp only[n101_0,w101_0,lenI_def]
   rw[ltI_t (by omega),leI_t (by omega),rdE_nat .n f i hi,wI_succ (by omega)]
   rw[leN_t (by simp only[E.most];omega),leN_t (by simp only[E.most,List.length_singleton];omega)]
   rfl)
  (fun k out ho=>by
   simp only[n101_0,w101_0,lenI_def]
   rw[ltI_f (by omega)];rfl) fuel 0 [] (by omega) rfl (by have:=fuel_big;omega)
 unfold r101 m101 L101_0
 simp only[Int.natCast_zero,List.drop_zero,List.nil_append]at key
 rw[key]
 rfl
theorem l12List_ok (f:List (List Int)) (h:small f):r157 (f,())=some ((f,()),()):=by
 have h0:=h.1
 have key:=app_list_loop (fun k i out=>n157_0 k (f,()) () (out,((i:Int),()))) f (fun out=>(Sum.inl (out,((f.length:Int),())),()))
  (fun k i out hi ho=>by
   have hl:=h.2.1 _ (List.getElem_mem hi)
   simp only[n157_0,w157_0,lenI_def]
   rw[ltI_t (by omega),leI_t (by omega),rdE_nat .n f i hi,wI_succ (by omega)]
   rw[leN_t (by simp only[E.most];omega),leN_t (by simp only[E.most,List.length_singleton];omega)]
   rfl)
  (fun k out ho=>by
   simp only[n157_0,w157_0,lenI_def]
   rw[ltI_f (by omega)];rfl) fuel 0 [] (by omega) rfl (by have:=fuel_big;omega)
 unfold r157 m157 L157_0
 simp only[Int.natCast_zero,List.drop_zero,List.nil_append]at key
 rw[key]
 rfl
theorem l6Copy_ok (x:Tup memL) (h:x.1.length≤4398046511104):r139 (x,())=some ((x,()),()):=by
 unfold r139 m139
 simp only
 rw[leN_t (by simp only[E.most];omega)]
 rfl
theorem l8Copy_ok (p:Tup ppuL) (h:ppuOkS p):r156 (p,())=some ((p,()),()):=by
 unfold r156 m156
 obtain ⟨h1,h2⟩:=h
 simp only
 rw[leN_t (by simp only[E.most];omega),leN_t (by simp only[E.most];omega)]
 rfl
def lock0:Tup lockL:=([],([],([],(0,(0,(0,(0,(0,(false,(false,(false,(false,(0,(0,(0,(0,(0,(false,([],([],(0,(0,(0,(0,(0,(false,(false,(false,(0,(false,(0,([],([],([],()))))))))))))))))))))))))))))))))))
theorem mod256 (x:Int):0≤x%256∧x%256≤255:=by omega
theorem specByte_ok (y:PTup i215):r215 y=some (((y.1:Int)%256,()),()):=by
 unfold r215 m215
 rw[bAnd_255]
theorem specAddr_ok (y:PTup i223):r223 y=some (((y.1:Int)%65536,()),()):=by
 unfold r223 m223
 rw[bAnd_65535]
def flagN (b:Bool):Int:=if b then 1 else 0
theorem l1Bit_ok (y:PTup i63):r63 y=some ((flagN y.1,()),()):=by
 unfold r63 m63 flagN
 obtain ⟨b,_⟩:=y
 cases b<;>rfl
theorem flagN_range (b:Bool):0≤flagN b∧flagN b≤1:=by cases b<;>simp[flagN]
def joinN (lo hi:Int):Int:=lo%256+256*(hi%256)
theorem specJoin_ok (y:PTup i163):r163 y=some ((joinN y.1 y.2.1,()),()):=by
 unfold r163 m163 joinN
 obtain ⟨lo,hi,_⟩:=y
 simp only[specByte_ok,Option.bind_some]
 have h1:=mod256 lo
 have h2:=mod256 hi
 rw[wI_id (x:=256*(hi%256)) (by omega) (by omega),wI_id (by omega) (by omega)]
theorem specSigns_ok (y:PTup i278):r278 y=some ((eqI ((y.1:Int)%256) 0,(ltI 127 ((y.1:Int)%256),())),()):=by
 unfold r278 m278
 simp only[specByte_ok,Option.bind_some]
def addS (a b:Int) (c:Bool):Int:=a%256+b%256+flagN c
theorem specAdd8_ok (y:PTup i282):r282 y=some ((addS y.1 y.2.1 y.2.2.1%256,(ltI 255 (addS y.1 y.2.1 y.2.2.1),())),()):=by
 unfold r282 m282 addS
 obtain ⟨a,b,c,_⟩:=y
 simp only[specByte_ok,l1Bit_ok,Option.bind_some]
 have h1:=mod256 a
 have h2:=mod256 b
 have h3:=flagN_range c
 rw[wI_id (x:=a%256+b%256) (by omega) (by omega),wI_id (x:=a%256+b%256+flagN c) (by omega) (by omega)]
def subS (a b:Int) (c:Bool):Int:=a%256-b%256-1+flagN c
theorem specSub8_ok (y:PTup i277):r277 y=some ((subS y.1 y.2.1 y.2.2.1%256,(leI 0 (subS y.1 y.2.1 y.2.2.1),())),()):=by
 unfold r277 m277 subS
 obtain ⟨a,b,c,_⟩:=y
 simp only[specByte_ok,l1Bit_ok,Option.bind_some]
 have h1:=mod256 a
 have h2:=mod256 b
 have h3:=flagN_range c
 rw[wI_id (x:=a%256-b%256) (by omega) (by omega),wI_id (x:=a%256-b%256-1) (by omega) (by omega),wI_id (x:=a%256-b%256-1+flagN c) (by omega) (by omega)]
theorem ops_cases {n:Int} (h:0≤n∧n≤29):n=0∨n=1∨n=2∨n=3∨n=4∨n=5∨n=6∨n=7∨n=8∨n=9∨n=10∨n=11∨n=12∨n=13∨n=14∨n=15∨n=16∨n=17∨n=18∨n=19∨n=20∨n=21∨n=22∨n=23∨n=24∨n=25∨n=26∨n=27∨n=28∨n=29:=by omega
def opLenN (n:Int):Int:=if 0≤n∧n≤29 then ([1,2,3,3,2,2,2,2,2,2,1,1,1,1,3,3,3,3,3,3,3,1,1,1,1,1,1,1,1,3]:List Int).getD n.toNat 1 else 1
def opCycN (n:Int):Int:=if 0≤n∧n≤29 then ([2,2,4,4,2,2,2,2,2,2,2,2,2,2,4,5,3,3,3,3,6,6,3,4,6,2,2,2,2,4]:List Int).getD n.toNat 2 else 2
def opAccN (n:Int):Int:=if n=2∨n=14∨n=29 then 1 else if n=3∨n=15 then 2 else 0
theorem specOpLen_ok (y:PTup i257):r257 y=some ((opLenN y.1,()),()):=by
 obtain ⟨(n:Int),_⟩:=y
 show r257 (n,())=some ((opLenN n,()),())
 by_cases h:0≤n∧n≤29
 ·rcases ops_cases h with rfl|rfl|rfl|rfl|rfl|rfl|rfl|rfl|rfl|rfl|rfl|rfl|rfl|rfl|rfl|rfl|rfl|rfl|rfl|rfl|rfl|rfl|rfl|rfl|rfl|rfl|rfl|rfl|rfl|rfl<;>rfl
 ·have e2:inR 0 29 n=false:=by
   cases hh:inR 0 29 n with
   |false=>rfl
   |true=>exact absurd (inR_iff.1 hh) h
  unfold r257 m257 opLenN
  rw[if_neg h]
  simp only[l1In_ok,Option.bind_some,e2,Bool.not_false,cond_true]
theorem specOpCycles_ok (y:PTup i233):r233 y=some ((opCycN y.1,()),()):=by
 obtain ⟨(n:Int),_⟩:=y
 show r233 (n,())=some ((opCycN n,()),())
 by_cases h:0≤n∧n≤29
 ·rcases ops_cases h with rfl|rfl|rfl|rfl|rfl|rfl|rfl|rfl|rfl|rfl|rfl|rfl|rfl|rfl|rfl|rfl|rfl|rfl|rfl|rfl|rfl|rfl|rfl|rfl|rfl|rfl|rfl|rfl|rfl|rfl<;>rfl
 ·have e2:inR 0 29 n=false:=by
   cases hh:inR 0 29 n with
   |false=>rfl
   |true=>exact absurd (inR_iff.1 hh) h
  unfold r233 m233 opCycN
  rw[if_neg h]
  simp only[l1In_ok,Option.bind_some,e2,Bool.not_false,cond_true]
theorem specOpAccess_ok (y:PTup i258):r258 y=some ((opAccN y.1,()),()):=by
 obtain ⟨(n:Int),_⟩:=y
 show r258 (n,())=some ((opAccN n,()),())
 by_cases h:0≤n∧n≤29
 ·rcases ops_cases h with rfl|rfl|rfl|rfl|rfl|rfl|rfl|rfl|rfl|rfl|rfl|rfl|rfl|rfl|rfl|rfl|rfl|rfl|rfl|rfl|rfl|rfl|rfl|rfl|rfl|rfl|rfl|rfl|rfl|rfl<;>rfl
 ·have e: ∀c:Int,0≤c→c≤29→eqI n c=false:=fun c h0 h1=>eqI_f (by omega)
  unfold r258 m258 opAccN
  rw[if_neg (by omega),if_neg (by omega)]
  simp[e]
structure MemM where
 ram:List Int
 bank:Int
structure CpuM where
 a:Int
 x:Int
 s:Int
 pc:Int
 z:Bool
 n:Bool
 c:Bool
 i:Bool
structure PpuM where
 T:Int
 ctrl:Int
 scroll:Int
 addr:Int
 pal:Int
 blank:Bool
 table:List Int
 dots:List Int
structure ApuM where
 T:Int
 period:Int
 count:Int
 bit:Int
 len:Int
 asks:Bool
 irq:Bool
structure PadM where
 held:Bool
 shift:Int
def MemM.t (x:MemM):Tup memL:=(x.ram,(x.bank,()))
def CpuM.t (c:CpuM):Tup cpuL:=(c.a,(c.x,(c.s,(c.pc,(c.z,(c.n,(c.c,(c.i,()))))))))
def PpuM.t (p:PpuM):Tup ppuL:=(p.T,(p.ctrl,(p.scroll,(p.addr,(p.pal,(p.blank,(p.table,(p.dots,()))))))))
def ApuM.t (a:ApuM):Tup apuL:=(a.T,(a.period,(a.count,(a.bit,(a.len,(a.asks,(a.irq,())))))))
def PadM.t (x:PadM):Tup padL:=(x.held,(x.shift,()))
def cpuM (c:Tup cpuL):CpuM:=⟨c.1,c.2.1,c.2.2.1,c.2.2.2.1,c.2.2.2.2.1,c.2.2.2.2.2.1,c.2.2.2.2.2.2.1,c.2.2.2.2.2.2.2.1⟩
def BytesP (l:List Int):Prop:= ∀n,n∈l→0≤n∧n≤255
structure ImgP (f:List (List Int)):Prop where
 banks: ∀b,b∈f→b.length=256∧BytesP b
 lo:1≤f.length
 hi:f.length≤8
structure RamP (x:MemM):Prop where
 len:x.ram.length=512
 bytes:BytesP x.ram
structure MemP (f:List (List Int)) (x:MemM):Prop where
 img:ImgP f
 ram:RamP x
 b0:0≤x.bank
 b1:x.bank< (f.length:Int)
structure CpuP (c:CpuM):Prop where
 a:0≤c.a∧c.a≤255
 x:0≤c.x∧c.x≤255
 s:0≤c.s∧c.s≤255
 pc:0≤c.pc∧c.pc≤65535
theorem allR_iff {lo hi:Int} {l:List Int}:allR lo hi l=true↔ ∀n,n∈l→lo≤n∧n≤hi:=by
 unfold allR
 rw[List.all_eq_true]
 exact ⟨fun h n hn=>inR_iff.1 (h n hn),fun h n hn=>inR_iff.2 (h n hn)⟩
theorem eqI_iff {a b:Int}:eqI a b=true↔a=b:=by rw[eqI_d];simp
theorem leI_iff {a b:Int}:leI a b=true↔a≤b:=by simp[leI]
theorem imageOk_iff {f:List (List Int)}:imageOk f=true↔ImgP f:=by
 unfold imageOk
 rw[Bool.and_eq_true,List.all_eq_true,inR_iff]
 constructor
 ·rintro ⟨h,h1,h2⟩
  refine ⟨fun b hb=> ?_,by omega,by omega⟩
  have:=h b hb
  unfold bankOk at this
  rw[Bool.and_eq_true,eqI_iff,allR_iff]at this
  exact ⟨by omega,this.2⟩
 ·rintro ⟨h,h1,h2⟩
  refine ⟨fun b hb=> ?_,by omega,by omega⟩
  unfold bankOk
  rw[Bool.and_eq_true,eqI_iff,allR_iff]
  exact ⟨by have:=(h b hb).1;omega,(h b hb).2⟩
theorem memOk_iff {f:List (List Int)} {x:MemM}:memOk f x.t=true↔MemP f x:=by
 unfold memOk MemM.t
 simp only[Bool.and_eq_true,imageOk_iff,eqI_iff,allR_iff,inR_iff]
 constructor
 ·rintro ⟨h,h1,h2,h3,h4⟩
  exact ⟨h,⟨by omega,h2⟩,h3,by omega⟩
 ·rintro ⟨h,⟨h1,h2⟩,h3,h4⟩
  exact ⟨h,by omega,h2,h3,by omega⟩
theorem cpuOk_iff {c:CpuM}:cpuOk c.t=true↔CpuP c:=by
 unfold cpuOk CpuM.t
 simp only[Bool.and_eq_true,inR_iff]
 constructor
 ·rintro ⟨h,h1,h2,h3⟩;exact ⟨h,h1,h2,h3⟩
 ·rintro ⟨h,h1,h2,h3⟩;exact ⟨h,h1,h2,h3⟩
theorem ImgP.small {f:List (List Int)} (h:ImgP f):small f:=by
 have key: ∀g:List (List Int),(∀b,b∈g→b.length=256)→bulk g=256*g.length:=by
  intro g
  induction g with
  |nil=>intro _;rfl
  |cons b g ih=>
   intro hb
   simp only[bulk,List.length_cons]
   rw[ih (fun b hg=>hb b (List.mem_cons_of_mem _ hg)),hb b List.mem_cons_self]
   omega
 have hi:=h.hi
 refine ⟨by omega,fun l hl=> ?_,?_⟩
 ·have:=(h.banks l hl).1;omega
 ·rw[key f fun b hb=>(h.banks b hb).1];omega
def setAT (c:CpuM) (v:Int):CpuM:={c with a:=v%256,z:=eqI (v%256) 0,n:=ltI 127 (v%256)}
def setXT (c:CpuM) (v:Int):CpuM:={c with x:=v%256,z:=eqI (v%256) 0,n:=ltI 127 (v%256)}
def wfT (c:CpuM) (f:Int):CpuM:={c with z:=neI (bAnd .i64 f 2) 0,n:=neI (bAnd .i64 f 128) 0,c:=neI (bAnd .i64 f 1) 0,i:=neI (bAnd .i64 f 4) 0}
def flagsT (c:CpuM):Int:=flagN c.c+2*flagN c.z+4*flagN c.i+128*flagN c.n
theorem specSetA_ok (c:CpuM) (v:Int):r264 (c.t,(v,()))=some (((setAT c v).t,()),()):=by
 unfold r264 m264
 simp only[specByte_ok,specSigns_ok,Option.bind_some]
 rfl
theorem specSetX_ok (c:CpuM) (v:Int):r279 (c.t,(v,()))=some (((setXT c v).t,()),()):=by
 unfold r279 m279
 simp only[specByte_ok,specSigns_ok,Option.bind_some]
 rfl
theorem setAT_P {c:CpuM} {v:Int} (h:CpuP c):CpuP (setAT c v):=⟨mod256 v,h.x,h.s,h.pc⟩
theorem setXT_P {c:CpuM} {v:Int} (h:CpuP c):CpuP (setXT c v):=⟨h.a,mod256 v,h.s,h.pc⟩
theorem specWithFlags_ok (c:CpuM) (f:Int):r251 (c.t,(f,()))=some (((wfT c f).t,()),()):=rfl
theorem wfT_P {c:CpuM} {f:Int} (h:CpuP c):CpuP (wfT c f):=⟨h.a,h.x,h.s,h.pc⟩
theorem specFlags_ok (c:CpuM):r259 (c.t,())=some ((flagsT c,()),()):=by
 unfold r259 m259 flagsT
 simp only[l1Bit_ok,Option.bind_some,CpuM.t]
 obtain ⟨a,x,s,pc,z,n,c,i⟩:=c
 simp only
 cases z<;>cases n<;>cases c<;>cases i<;>rfl
def rgT (a:Int):Int×Int:=
 let b:=a%65536
 if b<8192 then (1,b%512)else if b<16384 then (2,b%8)else if b<16388 then (3,b%4)else if b=16406 then (4,0)else if b<32768 then (7,0)else if b<49152 then (5,b%256)else (6,b%256)
theorem tmod_nn {a b:Int} (h:0≤a):Int.tmod a b=a%b:=Int.tmod_eq_emod_of_nonneg h
theorem specRegion_a (a:Int):r176 (a,())=some (((rgT a).1,((rgT a).2,())),()):=by
 unfold r176 m176 rgT
 simp only[specAddr_ok,Option.bind_some]
 have h0:0≤a%65536:=by omega
 generalize a%65536=b at*
 rw[tmod_nn h0,tmod_nn h0,tmod_nn h0,tmod_nn h0]
 by_cases h1:b<8192
 ·rw[ltI_t h1,if_pos h1];rfl
 rw[ltI_f h1,if_neg h1,cond_false]
 by_cases h1:b<16384
 ·rw[ltI_t h1,if_pos h1];rfl
 rw[ltI_f h1,if_neg h1,cond_false]
 by_cases h1:b<16388
 ·rw[ltI_t h1,if_pos h1];rfl
 rw[ltI_f h1,if_neg h1,cond_false]
 by_cases h1:b=16406
 ·rw[eqI_t h1,if_pos h1];rfl
 rw[eqI_f h1,if_neg h1,cond_false]
 by_cases h1:b<32768
 ·rw[ltI_t h1,if_pos h1];rfl
 rw[ltI_f h1,if_neg h1,cond_false]
 by_cases h1:b<49152
 ·rw[ltI_t h1,if_pos h1];rfl
 rw[ltI_f h1,if_neg h1,cond_false]
theorem specRegion_ok (y:PTup i176):r176 y=some (((rgT y.1).1,((rgT y.1).2,())),()):=specRegion_a y.1
theorem rgT_cases (a:Int):((rgT a).1=1∧0≤(rgT a).2∧(rgT a).2<512)∨((rgT a).1=2∧0≤(rgT a).2∧(rgT a).2<8)∨((rgT a).1=3∧0≤(rgT a).2∧(rgT a).2<4)∨((rgT a).1=4∧(rgT a).2=0)∨((rgT a).1=5∧0≤(rgT a).2∧(rgT a).2<256)∨((rgT a).1=6∧0≤(rgT a).2∧(rgT a).2<256)∨((rgT a).1=7∧(rgT a).2=0):=by
 unfold rgT
 simp only
 split
 ·left;exact ⟨rfl,by show 0≤a%65536%512;omega,by show a%65536%512<512;omega⟩
 right
 split
 ·left;exact ⟨rfl,by show 0≤a%65536%8;omega,by show a%65536%8<8;omega⟩
 right
 split
 ·left;exact ⟨rfl,by show 0≤a%65536%4;omega,by show a%65536%4<4;omega⟩
 right
 split
 ·left;exact ⟨rfl,rfl⟩
 right
 split
 ·right;right;exact ⟨rfl,rfl⟩
 split
 ·left;exact ⟨rfl,by show 0≤a%65536%256;omega,by show a%65536%256<256;omega⟩
 ·right;left;exact ⟨rfl,by show 0≤a%65536%256;omega,by show a%65536%256<256;omega⟩
def peekT (f:List (List Int)) (x:MemM) (a:Int):Int:=
 if (rgT a).1=1 then rdE .i x.ram (rgT a).2 else if (rgT a).1=5 then rdI (rdE .n f x.bank) (rgT a).2 else if (rgT a).1=6 then rdI (rdE .n f ((f.length:Int)-1)) (rgT a).2 else 0
theorem rdE_mem {e:E} {l:List e.C} {i:Int} (h0:0≤i) (h1:i< (l.length:Int)):rdE e l i∈l:=by
 have:i.toNat<l.length:=by omega
 rw[show rdE e l i=l[i.toNat] by simp[rdE,List.getD,this]]
 exact List.getElem_mem _
theorem rdI_mem {l:List Int} {i:Int} (h0:0≤i) (h1:i< (l.length:Int)):rdI l i∈l:=rdE_mem (e:= .i) h0 h1
theorem peekT_byte {f:List (List Int)} {x:MemM} (h:MemP f x) (a:Int):0≤peekT f x a∧peekT f x a≤255:=by
 have hf:=h.img.lo
 have hb0:=h.b0
 have hb1:=h.b1
 have hl:=h.ram.len
 unfold peekT
 have z:(0:Int)≤0∧(0:Int)≤255:=by decide
 rcases rgT_cases a with ⟨e,h0,h1⟩| ⟨e,h0,h1⟩| ⟨e,h0,h1⟩| ⟨e,h0⟩| ⟨e,h0,h1⟩| ⟨e,h0,h1⟩| ⟨e,h0⟩<;>rw[e]
 ·exact h.ram.bytes _ (rdE_mem (e:= .i) h0 (by omega))
 ·exact z
 ·exact z
 ·exact z
 ·have hm:=h.img.banks _ (rdE_mem (e:= .n) hb0 hb1)
  exact hm.2 _ (rdI_mem h0 (by have:=hm.1;omega))
 ·have hm:=h.img.banks _ (rdE_mem (e:= .n) (l:=f) (i:=(f.length:Int)-1) (by omega) (by omega))
  exact hm.2 _ (rdI_mem h0 (by have:=hm.1;omega))
 ·exact z
theorem specPeek1_ok (f:List (List Int)) (x:MemM) (a:Int) (h:MemP f x):r180 ((f,()),(x.t,(a,())))=some ((peekT f x a,()),()):=by
 have hf:=h.img.lo
 have hg:=h.img.hi
 have hb0:=h.b0
 have hb1:=h.b1
 have hl:=h.ram.len
 unfold r180 m180 peekT
 simp only[specRegion_ok,Option.bind_some,lenI_def,MemM.t]
 rw[wI_id (x:=(f.length:Int)-1) (by omega) (by omega)]
 rcases rgT_cases a with ⟨e,h0,h1⟩| ⟨e,h0,h1⟩| ⟨e,h0,h1⟩| ⟨e,h0⟩| ⟨e,h0,h1⟩| ⟨e,h0,h1⟩| ⟨e,h0⟩<;>rw[e]
 ·rw[leI_t h0,ltI_t (by omega)];rfl
 ·rfl
 ·rfl
 ·rfl
 ·have hm:=(h.img.banks _ (rdE_mem (e:= .n) hb0 hb1)).1
  rw[leI_t hb0,ltI_t hb1,leI_t h0,ltI_t (show (rgT a).2< ((rdE .n f x.bank:List Int).length:Int) by omega)];rfl
 ·have hm:=(h.img.banks _ (rdE_mem (e:= .n) (l:=f) (i:=(f.length:Int)-1) (by omega) (by omega))).1
  rw[leI_t (show 0≤(f.length:Int)-1 by omega),ltI_t (show (f.length:Int)-1< (f.length:Int) by omega),leI_t h0,ltI_t (show (rgT a).2< ((rdE .n f ((f.length:Int)-1):List Int).length:Int) by omega)];rfl
 ·rfl
theorem specMemOk_t (f:List (List Int)) (x:MemM) (h:MemP f x):r111 ((f,()),(x.t,()))=some ((true,()),()):=by
 have:=specMemOk_ok f x.t h.img.small (by show x.ram.length≤_;have:=h.ram.len;omega)
 rw[memOk_iff.2 h]at this
 exact this
theorem specPeek_ok (f:List (List Int)) (x:MemM) (a:Int) (h:MemP f x):r164 ((f,()),(x.t,(a,())))=some ((peekT f x a,()),()):=by
 unfold r164 m164
 exact bind_step (specMemOk_t f x h) (bind_step (specPeek1_ok f x a h) rfl)
def pokeT (f:List (List Int)) (x:MemM) (a v:Int):MemM:=
 if (rgT a).1=1 then {x with ram:=x.ram.set (rgT a).2.toNat (v%256)}else if (rgT a).1=5∨(rgT a).1=6 then {x with bank:=(v%256)% (f.length:Int)}else x
theorem BytesP.set {l:List Int} (h:BytesP l) (i:Nat) {v:Int} (hv:0≤v∧v≤255):BytesP (l.set i v):=fun n hn=>by
 rcases List.mem_or_eq_of_mem_set hn with h1|h1
 ·exact h n h1
 ·rw[h1];exact hv
theorem pokeT_P {f:List (List Int)} {x:MemM} (h:MemP f x) (a v:Int):MemP f (pokeT f x a v):=by
 have hf:=h.img.lo
 unfold pokeT
 split
 ·exact ⟨h.img,⟨by simp[h.ram.len],h.ram.bytes.set _ (mod256 v)⟩,h.b0,h.b1⟩
 split
 ·exact ⟨h.img,⟨h.ram.len,h.ram.bytes⟩,Int.emod_nonneg _ (by omega),Int.emod_lt_of_pos _ (by omega)⟩
 ·exact h
theorem l6Copy_t (x:MemM) (h:x.ram.length=512):r139 (x.t,())=some ((x.t,()),()):=l6Copy_ok x.t (by show x.ram.length≤_;omega)
theorem specPoke_ok (f:List (List Int)) (x:MemM) (a v:Int) (h:MemP f x):r191 ((f,()),(x.t,(a,(v,()))))=some (((pokeT f x a v).t,()),()):=by
 have hf:=h.img.lo
 have hl:=h.ram.len
 unfold r191 m191 pokeT
 refine bind_step (l6Copy_t x hl) (bind_step (specMemOk_t f x h) ?_)
 simp only[specRegion_ok,specByte_ok,Option.bind_some,lenI_def,Bool.not_true,cond_false,MemM.t]
 have hv:=mod256 v
 rw[tmod_nn hv.1,neI_t (show (f.length:Int)≠0 by omega)]
 rcases rgT_cases a with ⟨e,h0,h1⟩| ⟨e,h0,h1⟩| ⟨e,h0,h1⟩| ⟨e,h0⟩| ⟨e,h0,h1⟩| ⟨e,h0,h1⟩| ⟨e,h0⟩<;>rw[e]
 ·rw[leI_t h0,ltI_t (by omega)];rfl
 all_goals rfl
def pushM (x:MemM) (c:CpuM) (v:Int):MemM:={x with ram:=x.ram.set (256+c.s%256).toNat (v%256)}
def pushC (c:CpuM):CpuM:={c with s:=(c.s-1)%256}
def pullC (c:CpuM):CpuM:={c with s:=(c.s+1)%256}
def pullV (x:MemM) (c:CpuM):Int:=rdE .i x.ram (256+(c.s+1)%256)
theorem pushM_P {x:MemM} (h:RamP x) (c:CpuM) (v:Int):RamP (pushM x c v):=⟨by simp[pushM,h.len],h.bytes.set _ (mod256 v)⟩
theorem pushC_P {c:CpuM} (h:CpuP c):CpuP (pushC c):=⟨h.a,h.x,mod256 _,h.pc⟩
theorem pullC_P {c:CpuM} (h:CpuP c):CpuP (pullC c):=⟨h.a,h.x,mod256 _,h.pc⟩
theorem pullV_byte {x:MemM} (h:RamP x) (c:CpuM):0≤pullV x c∧pullV x c≤255:=by
 have:=mod256 (c.s+1)
 have hl:=h.len
 exact h.bytes _ (rdE_mem (e:= .i) (by omega) (by omega))
theorem specPush_ok (x:MemM) (c:CpuM) (v:Int) (h:RamP x) (hc:CpuP c):r260 (x.t,(c.t,(v,())))=some (((pushM x c v).t,((pushC c).t,())),()):=by
 have hl:=h.len
 have hs:=hc.s
 unfold r260 m260 pushM pushC
 refine bind_step (l6Copy_t x hl) ?_
 simp only[specByte_ok,Option.bind_some,lenI_def,MemM.t,CpuM.t]
 have h1:=mod256 c.s
 rw[neI_f (by omega),wI_id (x:=256+c.s%256) (by omega) (by omega),leI_t (by omega),ltI_t (by omega),wI_id (x:=c.s-1) (by omega) (by omega)]
 rfl
theorem specPull_ok (x:MemM) (c:CpuM) (h:RamP x) (hc:CpuP c):r263 (x.t,(c.t,()))=some (((pullC c).t,(pullV x c,())),()):=by
 have hl:=h.len
 have hs:=hc.s
 have hb:=pullV_byte h c
 unfold pullV at hb
 unfold r263 m263 pullV pullC
 simp only[specByte_ok,Option.bind_some,lenI_def,MemM.t,CpuM.t]
 rw[wI_id (x:=c.s+1) (by omega) (by omega)]
 have h1:=mod256 (c.s+1)
 rw[neI_f (by omega),wI_id (x:=256+(c.s+1)%256) (by omega) (by omega),leI_t (by omega),ltI_t (by omega)]
 rw[show (rdE .i x.ram (256+(c.s+1)%256):Int)%256=rdE .i x.ram (256+(c.s+1)%256)from Int.emod_eq_of_lt hb.1 (Int.lt_of_le_of_lt hb.2 (by decide))]
 rfl

end Go.Proofs.YtgpifihakjdfeaaGreat.Plain
