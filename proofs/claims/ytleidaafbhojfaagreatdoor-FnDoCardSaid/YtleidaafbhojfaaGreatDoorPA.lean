/- Plain laws of the printed functions: Cp, Obs, Lock, Ok, Ok2, Ok3, Copies, Bytes, Cpu. No condition beyond those that each lemma states. -/
import Derived.Test.YtleidaafbhojfaaGreatDoorX
import Derived.Test.YtleidaafbhojfaaGreatDoorFn2
set_option linter.unusedVariables false
set_option linter.unusedSimpArgs false
namespace Go.Proofs.YtleidaafbhojfaaGreatDoor.Plain
open Go Go.Tev
def UY:List (List Int)→Nat| []=>0|l::f=>l.length+UY f
def small (f:List (List Int)):Prop:=f.length≤4398046511104∧(∀l,l∈f→l.length≤4398046511104)∧UY f≤4398046511104
def left (n:Int) (k:Nat):Int:=if n< (k:Int)then-1 else n-(k:Int)
theorem Ze4 (a b:List Int) (h1:a.length≤4398046511104): ∀(k i:Nat),i≤a.length→i≤b.length→a.length-i<k→
  n291_0 k (a,(b,())) () ((i:Int),())=if (a.drop i).take (b.length-i)=(b.drop i).take (a.length-i)then some (Sum.inl (((min a.length b.length:Nat):Int),()),())else some (Sum.inr (false,()),())
 |0,_,_,_,h=>absurd h (by omega)
 |k+1,i,hi,hj,hk=>by
  unfold n291_0 w291_0
  simp only[Zl]
  by_cases h:i<a.length
  ·rw[Zf (show (i:Int)< (a.length:Int) by omega)]
   by_cases hb:i<b.length
   ·rw[Zf (by omega),Zo (by omega),QC .i a i h,QC .i b i hb,Jd (by omega)]
    simp only[cond_true]
    rw[Kr h,Kr hb,show b.length-i=(b.length-(i+1))+1 by omega,show a.length-i=(a.length-(i+1))+1 by omega,List.take_succ_cons,List.take_succ_cons]
    by_cases hx:a[i]=b[i]
    ·rw[JU hx,cond_false,Ze4 a b h1 k (i+1) (by omega) (by omega) (by omega)]
     simp only[List.cons.injEq,hx,true_and]
    ·rw[Jy hx,cond_true]
     simp only[List.cons.injEq,hx,false_and,if_false]
   ·have:i=b.length:=by omega
    subst this
    rw[Zp (by omega),cond_true,cond_false]
    simp only[Nat.sub_self,List.take_zero,List.drop_length,List.take_nil,if_true]
    rw[show min a.length b.length=b.length by omega]
  ·have:i=a.length:=by omega
   subst this
   rw[Zp (by omega),cond_false]
   simp only[Nat.sub_self,List.take_zero,List.drop_length,List.take_nil,if_true]
   rw[show min a.length b.length=a.length by omega]
def beg {α:Type} [DecidableEq α] (a b:List α):Bool:=decide (a.length≤b.length∧a=b.take a.length)
theorem Ze5 (a b:List Int) (h1:a.length≤4398046511104):r291 (a,(b,()))=some ((beg a b,()),()):=by
 unfold r291 m291 L291_0
 simp only[Zl]
 have:=Ze4 a b h1 fuel 0 (by omega) (by omega) (by have:=ZQ;omega)
 simp only[Int.natCast_zero,List.drop_zero,Nat.sub_zero]at this
 rw[this]
 by_cases e:a.take b.length=b.take a.length
 ·rw[if_pos e]
  simp only[Option.bind_some,Zu,Zss,beg]
  by_cases hl:a.length≤b.length
  ·rw[List.take_of_length_le hl]at e
   rw[decide_eq_true (show (a.length:Int)≤(b.length:Int) by omega),decide_eq_true ⟨hl,e⟩]
  ·rw[decide_eq_false (show¬(a.length:Int)≤(b.length:Int) by omega),decide_eq_false (fun h=>hl h.1)]
 ·rw[if_neg e]
  simp only[Option.bind_some,Zu,beg]
  rw[decide_eq_false]
  rintro ⟨hl,h⟩
  rw[List.take_of_length_le hl]at e
  exact e h
theorem Zm0 {α:Type} [DecidableEq α] {a b:List α} (h:a.length=b.length):beg a b=decide (a=b):=by
 unfold beg
 congr 1
 rw[eq_iff_iff]
 constructor
 ·rintro ⟨_,e⟩
  rw[e,h,List.take_length]
 ·rintro rfl
  simp
theorem Zea (a b:List Int) (h1:a.length≤4398046511104):r233 (a,(b,()))=some ((decide (a=b),()),()):=by
 unfold r233 m233
 simp only[Zl]
 by_cases h:a.length=b.length
 ·rw[Zi (by omega),cond_true,Ze5 a b h1,Zm0 h]
  rfl
 ·rw[Zd (by omega),cond_false,decide_eq_false (fun e=>h (by rw[e]))]
theorem ZgY (a b:List Int) (h1:a.length≤4398046511104) (hab:a.length=b.length): ∀(k i:Nat),i≤a.length→a.length-i<k→
  n149_0 k (a,(b,((a.length:Int),()))) () ((i:Int),())=if a.drop i=b.drop i then some (Sum.inl ((a.length:Int),()),())else some (Sum.inr (false,()),())
 |0,_,_,h=>absurd h (by omega)
 |k+1,i,hi,hk=>by
  unfold n149_0 w149_0
  simp only[Zl]
  by_cases h:i<a.length
  ·have hb:i<b.length:=by omega
   rw[Zf (by omega),Zo (by omega),Zf (by omega),QC .i a i h,QC .i b i hb,Jd (by omega)]
   simp only[cond_true]
   rw[Kr h,Kr hb]
   by_cases hx:a[i]=b[i]
   ·rw[JU hx,cond_false,ZgY a b h1 hab k (i+1) (by omega) (by omega)]
    simp only[List.cons.injEq,hx,true_and]
   ·rw[Jy hx,cond_true]
    simp only[List.cons.injEq,hx,false_and,if_false]
  ·have:i=a.length:=by omega
   subst this
   rw[Zp (by omega)]
   simp[hab]
theorem Un (a b:List Int) (h1:a.length≤4398046511104):r149 (a,(b,()))=some ((decide (a=b),()),()):=by
 unfold r149 m149 L149_0
 simp only[Zl]
 by_cases h:a.length=b.length
 ·have:=ZgY a b h1 h fuel 0 (by omega) (by have:=ZQ;omega)
  simp only[Int.natCast_zero,List.drop_zero]at this
  rw[JU (by omega),cond_false,this]
  by_cases e:a=b<;>simp[e,Zu]
 ·rw[Jy (by omega),cond_true]
  rw[show decide (a=b)=false from decide_eq_false (fun e=>h (by rw[e]))]
theorem Zfk (a b:List (List Int)) (h1:small a) (hab:a.length=b.length): ∀(k i:Nat),i≤a.length→a.length-i<k→
  n286_0 r287 k (b,((),(a,((a.length:Int),())))) () ((i:Int),())=if a.drop i=b.drop i then some (Sum.inl ((a.length:Int),()),())else some (Sum.inr (false,()),())
 |0,_,_,h=>absurd h (by omega)
 |k+1,i,hi,hk=>by
  unfold n286_0 w286_0
  simp only[Zl]
  have:=h1.1
  by_cases h:i<a.length
  ·have hb:i<b.length:=by omega
   rw[Zf (by omega),Zo (by omega),Zf (by omega),QC .n a i h,QC .n b i hb,Jd (by omega)]
   rw[show r287 (a[i],(b[i],()))=some ((decide (a[i]=b[i]),()),()) by
    unfold r287 m287
    rw[Un _ _ (h1.2.1 _ (List.getElem_mem h))]
    rfl]
   simp only[cond_true,Option.bind_some]
   rw[Kr h,Kr hb]
   by_cases hx:a[i]=b[i]
   ·rw[show (!decide (a[i]=b[i]))=false by simp[hx],cond_false,Zfk a b h1 hab k (i+1) (by omega) (by omega)]
    simp only[List.cons.injEq,hx,true_and]
   ·rw[show (!decide (a[i]=b[i]))=true by simpa using hx,cond_true]
    simp only[List.cons.injEq,hx,false_and,if_false]
  ·have:i=a.length:=by omega
   subst this
   rw[Zp (by omega)]
   simp[hab]
theorem Zno (a b:List (List Int)) (h1:small a):r286 (a,(b,((),())))=some ((decide (a=b),()),()):=by
 unfold r286 m286 L286_0
 simp only[Zl]
 have:=h1.1
 by_cases h:a.length=b.length
 ·have:=Zfk a b h1 h fuel 0 (by omega) (by have:=ZQ;omega)
  simp only[Int.natCast_zero,List.drop_zero]at this
  rw[JU (by omega),cond_false,this]
  by_cases e:a=b<;>simp[e,Zu]
 ·rw[Jy (by omega),cond_true]
  rw[show decide (a=b)=false from decide_eq_false (fun e=>h (by rw[e]))]
theorem Zfp (a b:Tup [.sl false .n, .sl false .i, .sl false .i]) (h1:small a.1) (hab:a.1.length≤b.1.length): ∀(k i:Nat),i≤a.1.length→a.1.length-i<k→
  n234_0 r291 r233 k () (a,(b,())) ((i:Int),())=if a.1.drop i=(b.1.drop i).take (a.1.length-i)then some (Sum.inl ((a.1.length:Int),()),(a,(b,())))else some (Sum.inr (false,()),(a,(b,())))
 |0,_,_,h=>absurd h (by omega)
 |k+1,i,hi,hk=>by
  unfold n234_0 w234_0
  simp only[Zl]
  have:=h1.1
  by_cases h:i<a.1.length
  ·have hb:i<b.1.length:=by omega
   rw[Zf (show (i:Int)< (a.1.length:Int) by omega),Zo (by omega),Zf (show (i:Int)< (b.1.length:Int) by omega),QC .n a.1 i h,QC .n b.1 i hb,Jd (by omega),Zea _ _ (h1.2.1 _ (List.getElem_mem h))]
   simp only[cond_true,Option.bind_some]
   rw[Kr h,Kr hb,show a.1.length-i=(a.1.length-(i+1))+1 by omega,List.take_succ_cons]
   by_cases hx:a.1[i]=b.1[i]
   ·rw[show (!decide (a.1[i]=b.1[i]))=false by simp[hx],cond_false,Zfp a b h1 hab k (i+1) (by omega) (by omega)]
    simp only[List.cons.injEq,hx,true_and]
   ·rw[show (!decide (a.1[i]=b.1[i]))=true by simpa using hx,cond_true]
    simp only[List.cons.injEq,hx,false_and,if_false]
  ·have:i=a.1.length:=by omega
   subst this
   rw[Zp (by omega)]
   simp
abbrev K6:List LT:=[.sl false .n, .sl false .i, .sl false .i]
def UC (a:Tup K6):Prop:=small a.1∧a.2.1.length≤4398046511104∧a.2.2.1.length≤4398046511104
def XV (a b:Tup K6):Bool:=beg a.1 b.1&&(beg a.2.1 b.2.1&&beg a.2.2.1 b.2.2.1)
def Wf (a b:Tup K6):Bool:=decide (a.1=b.1)&&(decide (a.2.1=b.2.1)&&decide (a.2.2.1=b.2.2.1))
theorem Zbw (a b:Tup K6) (ha:UC a):r234 (a,(b,()))=some ((XV a b,()),()):=by
 unfold r234 m234 L234_0
 obtain ⟨h1,h2,h3⟩:=ha
 simp only[Zl]
 have:=h1.1
 by_cases h:b.1.length<a.1.length
 ·rw[Zf (by omega),cond_true]
  have:beg a.1 b.1=false:=decide_eq_false (fun hh=>by omega)
  simp only[XV,this,Bool.false_and]
 ·rw[Zp (by omega),cond_false,Ze5 _ _ h2]
  simp only[Option.bind_some,XV]
  cases e1:beg a.2.1 b.2.1 with
  |false=>simp
  |true=>
   simp only[Bool.not_true,cond_false]
   rw[Ze5 _ _ h3]
   simp only[Option.bind_some]
   cases e2:beg a.2.2.1 b.2.2.1 with
   |false=>simp
   |true=>
    have:=Zfp a b h1 (by omega) fuel 0 (by omega) (by have:=ZQ;omega)
    simp only[Int.natCast_zero,List.drop_zero,Nat.sub_zero]at this
    simp only[Bool.not_true,cond_false,this,Bool.and_true]
    by_cases e:a.1=b.1.take a.1.length
    ·rw[if_pos e]
     simp only[Option.bind_some,Zu,beg]
     rw[decide_eq_true ⟨by omega,e⟩]
    ·rw[if_neg e]
     simp only[Option.bind_some,Zu,beg]
     rw[decide_eq_false (fun hh=>e hh.2)]
theorem ZhM {α:Type} [DecidableEq α] (a b:List α):(beg a b&&beg b a)=decide (a=b):=by
 by_cases h:a.length=b.length
 ·rw[Zm0 h,Zm0 h.symm]
  by_cases e:a=b
  ·subst e;simp
  ·simp[e]
 ·rw[show decide (a=b)=false from decide_eq_false (fun e=>h (by rw[e]))]
  rcases Nat.lt_or_gt_of_ne h with h|h
  ·rw[show beg b a=false from decide_eq_false (fun hh=>by omega),Bool.and_false]
  ·rw[show beg a b=false from decide_eq_false (fun hh=>by omega),Bool.false_and]
theorem Zkp (a b:Tup K6):(XV a b&&XV b a)=Wf a b:=by
 unfold XV Wf
 rw[←ZhM a.1 b.1,←ZhM a.2.1 b.2.1,←ZhM a.2.2.1 b.2.2.1]
 cases beg a.1 b.1<;>cases beg b.1 a.1<;>cases beg a.2.1 b.2.1<;>cases beg b.2.1 a.2.1<;>simp
theorem ZkJ (a b:Tup K6) (ha:UC a) (hb:UC b):r293 (a,(b,()))=some ((Wf a b,()),()):=by
 unfold r293 m293
 rw[Zbw a b ha]
 simp only[Option.bind_some]
 rw[←Zkp]
 cases e:XV a b with
 |false=>simp
 |true=>rw[cond_true,Zbw b a hb];simp
theorem ZfB (a b:Tup K6) (ha:UC a):r217 (a,(b,()))=some ((Wf a b,()),()):=by
 unfold r217 m217
 obtain ⟨h1,h2,h3⟩:=ha
 rw[Zno _ _ h1]
 simp only[Option.bind_some,Wf]
 by_cases e1:a.1=b.1
 ·rw[decide_eq_true e1,cond_true,Un _ _ h2]
  simp only[Option.bind_some]
  by_cases e2:a.2.1=b.2.1
  ·rw[decide_eq_true e2,cond_true,Un _ _ h3]
   simp
  ·rw[decide_eq_false e2]
   simp
 ·rw[decide_eq_false e1]
  simp
theorem ZhN {α:Type} [DecidableEq α] (a b:List α) (h:a.length≤b.length):decide (a=b.take a.length)=beg a b:=by
 unfold beg
 congr 1
 rw[eq_iff_iff]
 exact ⟨fun e=>⟨h,e⟩,fun e=>e.2⟩
theorem Zh6 (a b:Tup K6) (ha:UC a):r150 (a,(b,()))=some ((XV a b,()),()):=by
 unfold r150 m150
 simp only[Zl,Int.toNat_natCast]
 by_cases h1:b.1.length<a.1.length
 ·rw[Zf (by omega),cond_true]
  simp[XV,show beg a.1 b.1=false from decide_eq_false (fun hh=>by omega)]
 rw[Zp (by omega),cond_false]
 by_cases h2:b.2.1.length<a.2.1.length
 ·rw[Zf (by omega),cond_true]
  simp[XV,show beg a.2.1 b.2.1=false from decide_eq_false (fun hh=>by omega)]
 rw[Zp (by omega),cond_false]
 by_cases h3:b.2.2.1.length<a.2.2.1.length
 ·rw[Zf (by omega),cond_true]
  simp[XV,show beg a.2.2.1 b.2.2.1=false from decide_eq_false (fun hh=>by omega)]
 rw[Zp (by omega),cond_false,Zo (by omega),Zo (by omega),Zo (by omega)]
 simp only[cond_true]
 rw[ZfB _ _ ha]
 simp only[Option.bind_some,Wf,XV]
 rw[ZhN _ _ (by omega),ZhN _ _ (by omega),ZhN _ _ (by omega)]
abbrev XT:List LT:=[.sl false .i, .int .i64]
abbrev Yr:List LT:=[.int .i64, .int .i64, .int .i64, .int .i64, .bool, .bool, .bool, .bool]
abbrev J9:List LT:=[.int .i64, .int .i64, .int .i64, .int .i64, .int .i64, .bool, .sl false .i, .sl false .i]
abbrev KV:List LT:=[.int .i64, .int .i64, .int .i64, .int .i64, .int .i64, .bool, .bool]
abbrev UE:List LT:=[.bool, .int .i64]
abbrev Y8:List LT:= .sl false .n:: .sl false .i::(XT++(Yr++(J9++(KV++(UE++(.bool:: .int .i64::K6))))))
def K9 (a:Tup J9):Prop:=a.2.2.2.2.2.2.1.length≤4398046511104∧a.2.2.2.2.2.2.2.1.length≤4398046511104
section
variable (a:Tup Y8)
abbrev Zst:List (List Int):=a.1
abbrev ZrP:List Int:=a.2.1
abbrev JK:Tup XT:=(a.2.2.1,(a.2.2.2.1,()))
abbrev KB:Tup Yr:=(a.2.2.2.2.1,(a.2.2.2.2.2.1,(a.2.2.2.2.2.2.1,(a.2.2.2.2.2.2.2.1,(a.2.2.2.2.2.2.2.2.1,(a.2.2.2.2.2.2.2.2.2.1,(a.2.2.2.2.2.2.2.2.2.2.1,(a.2.2.2.2.2.2.2.2.2.2.2.1,()))))))))
abbrev YT:Tup J9:=(a.2.2.2.2.2.2.2.2.2.2.2.2.1,(a.2.2.2.2.2.2.2.2.2.2.2.2.2.1,(a.2.2.2.2.2.2.2.2.2.2.2.2.2.2.1,(a.2.2.2.2.2.2.2.2.2.2.2.2.2.2.2.1,(a.2.2.2.2.2.2.2.2.2.2.2.2.2.2.2.2.1,(a.2.2.2.2.2.2.2.2.2.2.2.2.2.2.2.2.2.1,(a.2.2.2.2.2.2.2.2.2.2.2.2.2.2.2.2.2.2.1,(a.2.2.2.2.2.2.2.2.2.2.2.2.2.2.2.2.2.2.2.1,()))))))))
abbrev Uy:Tup KV:=(a.2.2.2.2.2.2.2.2.2.2.2.2.2.2.2.2.2.2.2.2.1,(a.2.2.2.2.2.2.2.2.2.2.2.2.2.2.2.2.2.2.2.2.2.1,(a.2.2.2.2.2.2.2.2.2.2.2.2.2.2.2.2.2.2.2.2.2.2.1,(a.2.2.2.2.2.2.2.2.2.2.2.2.2.2.2.2.2.2.2.2.2.2.2.1,(a.2.2.2.2.2.2.2.2.2.2.2.2.2.2.2.2.2.2.2.2.2.2.2.2.1,(a.2.2.2.2.2.2.2.2.2.2.2.2.2.2.2.2.2.2.2.2.2.2.2.2.2.1,(a.2.2.2.2.2.2.2.2.2.2.2.2.2.2.2.2.2.2.2.2.2.2.2.2.2.2.1,())))))))
abbrev Xl:Tup UE:=(a.2.2.2.2.2.2.2.2.2.2.2.2.2.2.2.2.2.2.2.2.2.2.2.2.2.2.2.1,(a.2.2.2.2.2.2.2.2.2.2.2.2.2.2.2.2.2.2.2.2.2.2.2.2.2.2.2.2.1,()))
abbrev J0:Tup K6:=a.2.2.2.2.2.2.2.2.2.2.2.2.2.2.2.2.2.2.2.2.2.2.2.2.2.2.2.2.2.2.2
end
def WE (a b:Tup Yr):Bool:=eqI a.1 b.1&&(eqI a.2.1 b.2.1&&(eqI a.2.2.1 b.2.2.1&&(eqI a.2.2.2.1 b.2.2.2.1&&((a.2.2.2.2.1==b.2.2.2.2.1)&&((a.2.2.2.2.2.1==b.2.2.2.2.2.1)&&((a.2.2.2.2.2.2.1==b.2.2.2.2.2.2.1)&&((a.2.2.2.2.2.2.2.1==b.2.2.2.2.2.2.2.1)&&true)))))))
def Zqg (a b:Tup KV):Bool:=eqI a.1 b.1&&(eqI a.2.1 b.2.1&&(eqI a.2.2.1 b.2.2.1&&(eqI a.2.2.2.1 b.2.2.2.1&&(eqI a.2.2.2.2.1 b.2.2.2.2.1&&((a.2.2.2.2.2.1==b.2.2.2.2.2.1)&&((a.2.2.2.2.2.2.1==b.2.2.2.2.2.2.1)&&true))))))
def VD (a b:Tup UE):Bool:=(a.1==b.1)&&(eqI a.2.1 b.2.1&&true)
def Uz (a b:Tup XT):Bool:=eqI a.2.1 b.2.1&&decide (a.1=b.1)
def Zn3 (a b:Tup J9):Bool:=eqI a.1 b.1&&(eqI a.2.1 b.2.1&&(eqI a.2.2.1 b.2.2.1&&(eqI a.2.2.2.1 b.2.2.2.1&&(eqI a.2.2.2.2.1 b.2.2.2.2.1&&((a.2.2.2.2.2.1==b.2.2.2.2.2.1)&&(decide (a.2.2.2.2.2.2.1=b.2.2.2.2.2.2.1)&&decide (a.2.2.2.2.2.2.2.1=b.2.2.2.2.2.2.2.1)))))))
def YJ (a:Tup Y8):Prop:=small a.1∧a.2.1.length≤4398046511104∧a.2.2.1.length≤4398046511104∧K9 (YT a)∧UC (J0 a)
theorem Zhh (a b:Tup XT) (h:a.1.length≤4398046511104):r148 (a,(b,()))=some ((Uz a b,()),()):=by
 unfold r148 m148
 rw[Un _ _ h]
 simp only[Option.bind_some,QY]
 rfl
theorem Zms (a b:Tup J9) (h:K9 a):r218 (a,(b,()))=some ((Zn3 a b,()),()):=by
 unfold r218 m218
 rw[Un _ _ h.1]
 rw[show r149 (a.2.2.2.2.2.2.2.1,b.2.2.2.2.2.2.2)=some ((decide (a.2.2.2.2.2.2.2.1=b.2.2.2.2.2.2.2.1),()),())from Un _ _ h.2]
 simp only[Option.bind_some,QY]
 rfl
theorem ZmD (a b:Tup J9) (h:K9 a):r292 (a,(b,()))=some ((Zn3 a b,()),()):=by
 unfold r292 m292
 rw[Zea _ _ h.1]
 rw[show r233 (a.2.2.2.2.2.2.2.1,b.2.2.2.2.2.2.2)=some ((decide (a.2.2.2.2.2.2.2.1=b.2.2.2.2.2.2.2.1),()),())from Zea _ _ h.2]
 simp only[Option.bind_some,QY]
 rfl
def Zlg (a b:Tup Y8):Bool:=
 WE (KB a) (KB b)&&(Zqg (Uy a) (Uy b)&&(VD (Xl a) (Xl b)&&((a.2.2.2.2.2.2.2.2.2.2.2.2.2.2.2.2.2.2.2.2.2.2.2.2.2.2.2.2.2.1==b.2.2.2.2.2.2.2.2.2.2.2.2.2.2.2.2.2.2.2.2.2.2.2.2.2.2.2.2.2.1)&&
  (eqI a.2.2.2.2.2.2.2.2.2.2.2.2.2.2.2.2.2.2.2.2.2.2.2.2.2.2.2.2.2.2.1 b.2.2.2.2.2.2.2.2.2.2.2.2.2.2.2.2.2.2.2.2.2.2.2.2.2.2.2.2.2.2.1&&(Uz (JK a) (JK b)&&(Zn3 (YT a) (YT b)&&Wf (J0 a) (J0 b)))))))
theorem Zfx (a b:Tup Y8) (h:YJ a):r152 (a,(b,()))=some ((Zlg a b,()),()):=by
 unfold r152 m152
 obtain ⟨_,_,h3,h4,h5⟩:=h
 simp only[Zhh (JK a) (JK b) h3,Zms (YT a) (YT b) h4,ZfB (J0 a) (J0 b) h5,Option.bind_some,QY]
 rfl
def inR (lo hi n:Int):Bool:=leI lo n&&leI n hi
def YG (lo hi:Int) (l:List Int):Bool:=l.all (inR lo hi)
theorem JS {lo hi n:Int}:inR lo hi n=true↔lo≤n∧n≤hi:=by simp[inR,leI]
theorem XB (y:PTup i87):r87 y=some ((inR y.2.1 y.2.2.1 y.1,()),()):=by
 unfold r87 m87
 simp only[QY]
 rfl
theorem JT (y:PTup i28):r28 y=some ((inR y.2.1 y.2.2.1 y.1,()),()):=by
 unfold r28 m28
 simp only[QY]
 rfl
theorem WQ (y:PTup i85):r85 y=some ((inR 0 255 y.1,()),()):=by
 unfold r85 m85
 simp only[XB,Option.bind_some]
theorem Vv (y:PTup i74):r74 y=some ((inR 0 255 y.1,()),()):=by
 unfold r74 m74
 simp only[JT,Option.bind_some]
theorem Zdg (y:PTup i86):r86 y=some ((inR 0 20000 y.1,()),()):=by
 unfold r86 m86
 simp only[XB,Option.bind_some]
theorem Zce (l:List Int) (hl:l.length≤4611686018427387904):r157 (l,())=some ((YG 0 255 l,()),()):=by
 have key:=Kl (fun k i=>n157_0 r85 k (l,((l.length:Int),())) () ((i:Int),())) l (inR 0 255) (Sum.inl ((l.length:Int),()),()) (Sum.inr (false,()),())
  (fun k i h hq=>by
   simp only[n157_0,w157_0,Zl]
   rw[Zf (by omega),Zo (by omega),QC .i l i h,WQ,Jd (by omega)]
   simp only[cond_true,Option.bind_some,hq,Bool.not_true,cond_false])
  (fun k i h hq=>by
   simp only[n157_0,w157_0,Zl]
   rw[Zf (by omega),Zo (by omega),QC .i l i h,WQ]
   simp only[cond_true,Option.bind_some,hq,Bool.not_false])
  (fun k=>by
   simp only[n157_0,w157_0,Zl]
   rw[Zp (by omega)];rfl) fuel 0 (by omega) (by have:=ZQ;omega)
 unfold r157 m157 L157_0
 simp only[Zl]
 simp only[Int.natCast_zero,List.drop_zero]at key
 rw[key]
 unfold YG
 cases l.all (inR 0 255)<;>rfl
theorem Zfc (l:List Int) (hl:l.length≤4611686018427387904):r221 (l,())=some ((YG 0 63 l,()),()):=by
 have key:=Kl (fun k i=>n221_0 r87 k (l,((l.length:Int),())) () ((i:Int),())) l (inR 0 63) (Sum.inl ((l.length:Int),()),()) (Sum.inr (false,()),())
  (fun k i h hq=>by
   simp only[n221_0,w221_0,Zl]
   rw[Zf (by omega),Zo (by omega),QC .i l i h,XB,Jd (by omega)]
   simp only[cond_true,Option.bind_some,hq,Bool.not_true,cond_false])
  (fun k i h hq=>by
   simp only[n221_0,w221_0,Zl]
   rw[Zf (by omega),Zo (by omega),QC .i l i h,XB]
   simp only[cond_true,Option.bind_some,hq,Bool.not_false])
  (fun k=>by
   simp only[n221_0,w221_0,Zl]
   rw[Zp (by omega)];rfl) fuel 0 (by omega) (by have:=ZQ;omega)
 unfold r221 m221 L221_0
 simp only[Zl]
 simp only[Int.natCast_zero,List.drop_zero]at key
 rw[key]
 unfold YG
 cases l.all (inR 0 63)<;>rfl
def XY (l:List Int):Bool:=leI (l.length:Int) 20&&YG 0 255 l
theorem Zbj (l:List Int) (hl:l.length≤4611686018427387904):r81 (l,())=some ((XY l,()),()):=by
 unfold r81 m81
 simp only[Zce l hl,Option.bind_some,Zl,QY]
 rfl
theorem ZbA (l:List Int) (hl:l.length≤4611686018427387904):r69 (l,())=some ((XY l,()),()):=by
 have key:=Kl (fun k i=>n69_0 r74 k (l,()) () ((i:Int),())) l (inR 0 255) (Sum.inl ((l.length:Int),()),()) (Sum.inr (false,()),())
  (fun k i h hq=>by
   simp only[n69_0,w69_0,Zl]
   rw[Zf (by omega),Zo (by omega),QC .i l i h,Vv,Jd (by omega)]
   simp only[cond_true,Option.bind_some,hq,Bool.not_true,cond_false])
  (fun k i h hq=>by
   simp only[n69_0,w69_0,Zl]
   rw[Zf (by omega),Zo (by omega),QC .i l i h,Vv]
   simp only[cond_true,Option.bind_some,hq,Bool.not_false])
  (fun k=>by
   simp only[n69_0,w69_0,Zl]
   rw[Zp (by omega)];rfl) fuel 0 (by omega) (by have:=ZQ;omega)
 unfold r69 m69 L69_0
 simp only[Zl]
 simp only[Int.natCast_zero,List.drop_zero]at key
 rw[key]
 unfold XY YG
 cases l.all (inR 0 255)<;>simp[Zu]
def KW (l:List Int):Bool:=eqI (l.length:Int) 256&&YG 0 255 l
def WN (f:List (List Int)):Bool:=f.all KW&&inR 1 8 (f.length:Int)
theorem ZgD (f:List (List Int)) (hf:small f):r156 ((f,()),())=some ((WN f,()),()):=by
 have h0:=hf.1
 have key:=Kl (fun k i=>n156_0 r157 r87 k (f,((f.length:Int),())) () ((i:Int),())) f KW (Sum.inl ((f.length:Int),()),()) (Sum.inr (false,()),())
  (fun k i h hq=>by
   have hl:=hf.2.1 _ (List.getElem_mem h)
   simp only[KW,Bool.and_eq_true]at hq
   simp only[n156_0,w156_0,Zl]
   rw[Zf (by omega),Zo (by omega),QC .n f i h,Zce _ (by omega),Jd (by omega)]
   have h1:(f[i].length:Int)=256:=by simpa [Qk] using hq.1
   rw[JU h1]
   simp only[cond_true,Option.bind_some,hq.2,Bool.not_true,cond_false])
  (fun k i h hq=>by
   have hl:=hf.2.1 _ (List.getElem_mem h)
   simp only[n156_0,w156_0,Zl]
   rw[Zf (by omega),Zo (by omega),QC .n f i h,Zce _ (by omega)]
   by_cases h1:(f[i].length:Int)=256
   ·rw[JU h1]
    simp only[KW,Zi h1,Bool.true_and]at hq
    simp only[cond_true,Option.bind_some,hq,Bool.not_false,cond_false]
   ·rw[Jy h1]
    simp only[cond_true])
  (fun k=>by
   simp only[n156_0,w156_0,Zl]
   rw[Zp (by omega)];rfl) fuel 0 (by omega) (by have:=ZQ;omega)
 unfold r156 m156 L156_0
 simp only[Zl]
 simp only[Int.natCast_zero,List.drop_zero]at key
 rw[key]
 unfold WN
 cases f.all KW<;>simp[Zu,XB]
theorem ZdC (f:List (List Int)) (i:Nat) (h:i<f.length) (hl:(f[i].length:Int)=256):
  L141_0 ((i:Int),()) ((f,()),()) ((0:Int),())=some (if f[i].all (inR 0 255)then (Sum.inl ((256:Int),()),((f,()),()))else (Sum.inr (false,()),((f,()),()))):=by
 have key:=Kl (fun k j=>n141_0 r28 k ((i:Int),()) ((f,()),()) ((j:Int),())) f[i] (inR 0 255) (Sum.inl ((256:Int),()),((f,()),())) (Sum.inr (false,()),((f,()),()))
  (fun k j hj hq=>by
   simp only[n141_0,w141_0,Zl]
   rw[QC .n f i h,Zf (show (j:Int)<256 by omega),Zo (show (0:Int)≤(i:Int) by omega),Zf (show (i:Int)< (f.length:Int) by omega),Zo (show (0:Int)≤(j:Int) by omega),Zf (by omega),Jd (by omega),
    show rdI f[i] (j:Int)=f[i][j] by simp[rdI,List.getD,hj],JT]
   simp only[cond_true,Option.bind_some,hq,Bool.not_true,cond_false])
  (fun k j hj hq=>by
   simp only[n141_0,w141_0,Zl]
   rw[QC .n f i h,Zf (show (j:Int)<256 by omega),Zo (show (0:Int)≤(i:Int) by omega),Zf (show (i:Int)< (f.length:Int) by omega),Zo (show (0:Int)≤(j:Int) by omega),Zf (by omega),
    show rdI f[i] (j:Int)=f[i][j] by simp[rdI,List.getD,hj],JT]
   simp only[cond_true,Option.bind_some,hq,Bool.not_false])
  (fun k=>by
   simp only[n141_0,w141_0,Zl]
   rw[Zp (by omega)]
   simp only[cond_false,hl]) fuel 0 (by omega) (by have:=ZQ;omega)
 exact key
theorem ZgN (f:List (List Int)) (hf:small f):r141 ((f,()),())=some ((WN f,()),()):=by
 have h0:=hf.1
 have key:=Kl (fun k i=>n141_1 r28 L141_0 k () ((f,()),()) ((i:Int),())) f KW (Sum.inl ((f.length:Int),()),((f,()),())) (Sum.inr (false,()),((f,()),()))
  (fun k i h hq=>by
   simp only[KW,Bool.and_eq_true,YG]at hq
   have h1:(f[i].length:Int)=256:=by simpa [Qk] using hq.1
   simp only[n141_1,w141_1,Zl]
   rw[Zf (by omega),Zo (by omega),QC .n f i h,Jd (by omega),JU h1,ZdC f i h h1,hq.2]
   simp only[cond_true,cond_false,Option.bind_some,if_true,Zu])
  (fun k i h hq=>by
   simp only[n141_1,w141_1,Zl]
   rw[Zf (by omega),Zo (by omega),QC .n f i h]
   by_cases h1:(f[i].length:Int)=256
   ·rw[JU h1,ZdC f i h h1]
    simp only[KW,Zi h1,Bool.true_and,YG]at hq
    rw[hq]
    simp only[cond_true,cond_false,Option.bind_some,Zu,Bool.false_eq_true,if_false]
   ·rw[Jy h1]
    simp only[cond_true])
  (fun k=>by
   simp only[n141_1,w141_1,Zl]
   rw[Zp (by omega)];rfl) fuel 0 (by omega) (by have:=ZQ;omega)
 unfold r141 m141 L141_1
 simp only[Zl]
 simp only[Int.natCast_zero,List.drop_zero]at key
 rw[key]
 unfold WN
 cases f.all KW<;>simp[Zu,JT]
def Xn (f:List (List Int)) (x:Tup XT):Bool:=WN f&&(eqI (x.1.length:Int) 512&&(YG 0 255 x.1&&inR 0 ((f.length:Int)-1) x.2.1))
theorem ZbU (f:List (List Int)) (x:Tup XT) (hf:small f) (hx:x.1.length≤4398046511104):r80 ((f,()),(x,()))=some ((Xn f x,()),()):=by
 unfold r80 m80
 have:=hf.1
 simp only[ZgD f hf,Zce x.1 (by omega),XB,Option.bind_some,Zl,QY]
 rw[Zj (by omega) (by omega)]
 rfl
theorem Zb6 (f:List (List Int)) (x:Tup XT) (hf:small f) (hx:x.1.length≤4398046511104):r70 ((f,()),(x,()))=some ((Xn f x,()),()):=by
 unfold r70 m70
 have:=hf.1
 simp only[ZgN f hf,JT,Option.bind_some,Zl]
 rw[Zj (by omega) (by omega)]
 unfold Xn
 cases WN f with
 |false=>rfl
 |true=>
  simp only[Bool.not_true,cond_false,Bool.true_and]
  by_cases h1:(x.1.length:Int)=512
  ·rw[JU h1,Zi h1]
   simp only[cond_false,Bool.true_and]
   cases h2:inR 0 ((f.length:Int)-1) x.2.1 with
   |false=>simp
   |true=>
    have key:=Kl (fun k i=>n70_0 r141 r28 r74 k () (x,()) ((i:Int),())) x.1 (inR 0 255) (Sum.inl ((512:Int),()),(x,())) (Sum.inr (false,()),(x,()))
     (fun k i h hq=>by
      simp only[n70_0,w70_0,Zl]
      rw[Zf (show (i:Int)<512 by omega),Zo (by omega),Zf (by omega),QC .i x.1 i h,Vv,Jd (by omega)]
      simp only[cond_true,Option.bind_some,hq,Bool.not_true,cond_false])
     (fun k i h hq=>by
      simp only[n70_0,w70_0,Zl]
      rw[Zf (show (i:Int)<512 by omega),Zo (by omega),Zf (by omega),QC .i x.1 i h,Vv]
      simp only[cond_true,Option.bind_some,hq,Bool.not_false])
     (fun k=>by
      simp only[n70_0,w70_0,Zl]
      rw[Zp (by omega)]
      simp only[cond_false,h1]) fuel 0 (by omega) (by have:=ZQ;omega)
    unfold L70_0
    simp only[Int.natCast_zero,List.drop_zero]at key
    simp only[Bool.not_true,cond_false]
    rw[key]
    unfold YG
    cases x.1.all (inR 0 255)<;>simp[Zu]
  ·rw[Jy h1,Zd h1]
   rfl
def Yj (c:Tup Yr):Bool:=inR 0 255 c.1&&(inR 0 255 c.2.1&&(inR 0 255 c.2.2.1&&inR 0 65535 c.2.2.2.1))
theorem ZbR (c:Tup Yr):r82 (c,())=some ((Yj c,()),()):=by
 unfold r82 m82
 simp only[WQ,XB,Option.bind_some,QY]
 rfl
theorem Zb4 (c:Tup Yr):r71 (c,())=some ((Yj c,()),()):=by
 unfold r71 m71
 simp only[Vv,JT,Option.bind_some,QY]
 rfl
def Y3 (a:Tup KV):Bool:=inR 0 20000 a.1&&(inR 0 255 a.2.1&&(inR 0 255 a.2.2.1&&(inR 0 1 a.2.2.2.1&&inR 0 31 a.2.2.2.2.1)))
theorem ZaN (a:Tup KV):r161 (a,())=some ((Y3 a,()),()):=by
 unfold r161 m161
 simp only[Zdg,WQ,XB,Option.bind_some,QY]
 rfl
theorem ZaV (a:Tup KV):r145 (a,())=some ((Y3 a,()),()):=by
 unfold r145 m145
 simp only[Vv,JT,Option.bind_some,QY]
 rfl
def WI (t:Int):Int:=if 48<Int.tmod t 64 then 0 else Int.tmod t 64
def Zju (p:Tup J9):Bool:=inR 0 20000 p.1&&(inR 0 255 p.2.1&&(inR 0 255 p.2.2.1&&(inR 0 15 p.2.2.2.1&&inR 0 63 p.2.2.2.2.1)))
def ZfW (p:Tup J9):Bool:=eqI (p.2.2.2.2.2.2.1.length:Int) 16&&(YG 0 63 p.2.2.2.2.2.2.1&&(eqI (p.2.2.2.2.2.2.2.1.length:Int) (WI p.1)&&YG 0 63 p.2.2.2.2.2.2.2.1))
def YL (p:Tup J9):Bool:=Zju p&&ZfW p
theorem Zev (p:Tup J9) (h:K9 p):r158 (p,())=some ((YL p,()),()):=by
 unfold r158 m158
 obtain ⟨h1,h2⟩:=h
 have hd:r221 p.2.2.2.2.2.2.2=some ((YG 0 63 p.2.2.2.2.2.2.2.1,()),()):=Zfc p.2.2.2.2.2.2.2.1 (by omega)
 simp only[Zdg,WQ,XB,Zfc p.2.2.2.2.2.2.1 (by omega),hd,Zl,Option.bind_some]
 unfold YL Zju ZfW WI
 by_cases h48:48<Int.tmod p.1 64
 ·rw[Zf h48,if_pos h48]
  simp only[cond_true,QY,Uk,Bool.and_assoc]
 ·rw[Zp h48,if_neg h48]
  simp only[cond_false,QY,Uk,Bool.and_assoc]
theorem ZjM (p:Tup J9) (h16:(p.2.2.2.2.2.2.1.length:Int)=16):
  L142_1 () (p,()) ((0:Int),())=some (if p.2.2.2.2.2.2.1.all (inR 0 63)then (Sum.inl ((16:Int),()),(p,()))else (Sum.inr (false,()),(p,()))):=by
 have key:=Kl (fun k i=>n142_1 r28 r74 r213 L142_0 k () (p,()) ((i:Int),())) p.2.2.2.2.2.2.1 (inR 0 63) (Sum.inl ((16:Int),()),(p,())) (Sum.inr (false,()),(p,()))
  (fun k i h hq=>by
   simp only[n142_1,w142_1,Zl]
   rw[Zf (show (i:Int)<16 by omega),Zo (by omega),Zf (by omega),QC .i p.2.2.2.2.2.2.1 i h,JT,Jd (by omega)]
   simp only[cond_true,Option.bind_some,hq,Bool.not_true,cond_false])
  (fun k i h hq=>by
   simp only[n142_1,w142_1,Zl]
   rw[Zf (show (i:Int)<16 by omega),Zo (by omega),Zf (by omega),QC .i p.2.2.2.2.2.2.1 i h,JT]
   simp only[cond_true,Option.bind_some,hq,Bool.not_false])
  (fun k=>by
   simp only[n142_1,w142_1,Zl]
   rw[Zp (by omega)]
   simp only[cond_false,h16]) fuel 0 (by omega) (by have:=ZQ;omega)
 exact key
theorem ZkI (p:Tup J9) (hl:p.2.2.2.2.2.2.2.1.length≤4398046511104):
  L142_0 () (p,()) ((0:Int),())=some (if p.2.2.2.2.2.2.2.1.all (inR 0 63)then (Sum.inl ((p.2.2.2.2.2.2.2.1.length:Int),()),(p,()))else (Sum.inr (false,()),(p,()))):=by
 have key:=Kl (fun k i=>n142_0 r28 r74 r213 k () (p,()) ((i:Int),())) p.2.2.2.2.2.2.2.1 (inR 0 63) (Sum.inl ((p.2.2.2.2.2.2.2.1.length:Int),()),(p,())) (Sum.inr (false,()),(p,()))
  (fun k i h hq=>by
   simp only[n142_0,w142_0,Zl]
   rw[Zf (show (i:Int)<_ by omega),Zo (by omega),QC .i p.2.2.2.2.2.2.2.1 i h,JT,Jd (by omega)]
   simp only[cond_true,Option.bind_some,hq,Bool.not_true,cond_false])
  (fun k i h hq=>by
   simp only[n142_0,w142_0,Zl]
   rw[Zf (show (i:Int)<_ by omega),Zo (by omega),QC .i p.2.2.2.2.2.2.2.1 i h,JT]
   simp only[cond_true,Option.bind_some,hq,Bool.not_false])
  (fun k=>by
   simp only[n142_0,w142_0,Zl]
   rw[Zp (by omega)]
   rfl) fuel 0 (by omega) (by have:=ZQ;omega)
 exact key
theorem ZaW (p:Tup J9) (h:K9 p):r142 (p,())=some ((YL p,()),()):=by
 unfold r142 m142
 obtain ⟨h1,h2⟩:=h
 have hd:r213 (p.1,())=some ((WI p.1,()),()):=by
  unfold r213 m213 WI
  by_cases h48:48<Int.tmod p.1 64
  ·simp only[Zf h48,cond_true,h48,if_true]
  ·simp only[Zp h48,cond_false,h48,if_false]
 have hrest:(bif neI (p.2.2.2.2.2.2.1.length:Int) 16 then some ((false,()),())else
   bif neI (p.2.2.2.2.2.2.2.1.length:Int) (WI p.1)then some ((false,()),())
   else (L142_1 () (p,()) ((0:Int),())).bind fun r6=>Zu r6.1 (fun r7=>(L142_0 () ((r6.2.1.1,(r6.2.1.2.1,(r6.2.1.2.2.1,(r6.2.1.2.2.2.1,(r6.2.1.2.2.2.2.1,(r6.2.1.2.2.2.2.2.1,p.2.2.2.2.2.2)))))),()) ((0:Int),())).bind fun r8=>
    Zu r8.1 (fun r9=>some ((true,()),())) (fun r9=>some (r9,()))) (fun r7=>some (r7,())))=some ((ZfW p,()),()):=by
  unfold ZfW
  by_cases h16:(p.2.2.2.2.2.2.1.length:Int)=16
  ·rw[JU h16,Zi h16,cond_false]
   by_cases hdn:(p.2.2.2.2.2.2.2.1.length:Int)=WI p.1
   ·rw[JU hdn,Zi hdn,cond_false,ZjM p h16]
    unfold YG
    cases p.2.2.2.2.2.2.1.all (inR 0 63)with
    |false=>rfl
    |true=>
     simp only[if_true,Option.bind_some,Zu]
     rw[show ((p.1,(p.2.1,(p.2.2.1,(p.2.2.2.1,(p.2.2.2.2.1,(p.2.2.2.2.2.1,p.2.2.2.2.2.2)))))):Tup J9)=p from rfl,ZkI p h2]
     cases p.2.2.2.2.2.2.2.1.all (inR 0 63)<;>rfl
   ·rw[Jy hdn,Zd hdn,cond_true]
    simp
  ·rw[Jy h16,Zd h16,cond_true]
   rfl
 simp only[JT,Vv,hd,Zl,Option.bind_some]
 rw[hrest]
 simp only[Uk]
 unfold YL Zju
 simp only[Bool.and_assoc]
abbrev Yc:List LT:=[.int .i64, .sl false .t]
def Vb (l:List (Int×Int×Int)) (i:Nat):Bool:=inR 0 20000 (rdE .t l (i:Int)).1&&(inR 0 7 (rdE .t l (i:Int)).2.1&&(inR 0 255 (rdE .t l (i:Int)).2.2&&(decide (i=0)|| !ltI (rdE .t l (i:Int)).1 (rdE .t l ((i-1:Nat):Int)).1)))
def KI (r:Tup Yc):Bool:=(List.range' 0 r.2.1.length).all (Vb r.2.1)&&(inR 1 16 r.1&&leI (r.2.1.length:Int) r.1)
theorem ZiB {i:Nat} (h:i≠0) (h2:i<9223372036854775807):wI ((i:Int)-1)=((i-1:Nat):Int):=by
 rw[Zj (by omega) (by omega)];omega
theorem ZcD (r:Tup Yc) (hl:r.2.1.length≤4398046511104) (k i:Nat) (h:i<r.2.1.length):
  n222_0 r85 r86 r87 (k+1) (r.2.1,((r.2.1.length:Int),())) (r,()) ((i:Int),())=
   bif Vb r.2.1 i then n222_0 r85 r86 r87 k (r.2.1,((r.2.1.length:Int),())) (r,()) (((i+1:Nat):Int),())else some (Sum.inr (false,()),(r,())):=by
 simp only[n222_0,w222_0,Zl]
 rw[Zf (show (i:Int)<_ by omega),Zo (show (0:Int)≤(i:Int) by omega),Jd (by omega)]
 simp only[cond_true,Zdg,XB,WQ,Option.bind_some]
 unfold Vb
 generalize inR 0 20000 (rdE .t r.2.1 (i:Int)).1=x1
 generalize inR 0 7 (rdE .t r.2.1 (i:Int)).2.1=x2
 generalize inR 0 255 (rdE .t r.2.1 (i:Int)).2.2=x3
 by_cases h0:i=0
 ·subst h0
  rw[Zp (by omega)]
  cases x1<;>cases x2<;>cases x3<;>rfl
 ·rw[Zf (by omega),ZiB h0 (by omega),Zo (by omega),Zf (by omega),decide_eq_false h0]
  generalize ltI (rdE .t r.2.1 (i:Int)).1 (rdE .t r.2.1 ((i-1:Nat):Int)).1=x4
  cases x1<;>cases x2<;>cases x3<;>cases x4<;>rfl
theorem Zh9 (r:Tup Yc) (hl:r.2.1.length≤4398046511104):r222 (r,())=some ((KI r,()),()):=by
 have key:=ZbM (fun k i=>n222_0 r85 r86 r87 k (r.2.1,((r.2.1.length:Int),())) (r,()) ((i:Int),())) r.2.1.length (Vb r.2.1) (Sum.inl ((r.2.1.length:Int),()),(r,())) (Sum.inr (false,()),(r,()))
  (fun k i h hq=>by simp only[ZcD r hl k i h,hq,cond_true])
  (fun k i h hq=>by simp only[ZcD r hl k i h,hq,cond_false])
  (fun k=>by
   simp only[n222_0,w222_0,Zl]
   rw[Zp (by omega)];rfl) fuel 0 (by omega) (by have:=ZQ;omega)
 unfold r222 m222 L222_0
 simp only[Zl]
 simp only[Int.natCast_zero,Nat.sub_zero]at key
 rw[key]
 unfold KI
 cases (List.range' 0 r.2.1.length).all (Vb r.2.1)with
 |false=>rfl
 |true=>simp only[if_true,Option.bind_some,Zu,XB,QY,Bool.true_and]
theorem ZcL (r:Tup Yc) (hl:r.2.1.length≤4398046511104) (k i:Nat) (h:i<r.2.1.length):
  n143_0 r28 r74 (k+1) () (r,()) ((i:Int),())=
   bif Vb r.2.1 i then n143_0 r28 r74 k () (r,()) (((i+1:Nat):Int),())else some (Sum.inr (false,()),(r,())):=by
 simp only[n143_0,w143_0,Zl]
 rw[Zf (show (i:Int)<_ by omega),Zo (show (0:Int)≤(i:Int) by omega),Jd (by omega)]
 simp only[cond_true,JT,Vv,Option.bind_some]
 unfold Vb
 generalize inR 0 20000 (rdE .t r.2.1 (i:Int)).1=x1
 generalize inR 0 7 (rdE .t r.2.1 (i:Int)).2.1=x2
 generalize inR 0 255 (rdE .t r.2.1 (i:Int)).2.2=x3
 by_cases h0:i=0
 ·subst h0
  rw[Zp (by omega)]
  cases x1<;>cases x2<;>cases x3<;>rfl
 ·rw[Zf (by omega),ZiB h0 (by omega),Zo (by omega),Zf (by omega),decide_eq_false h0]
  generalize ltI (rdE .t r.2.1 (i:Int)).1 (rdE .t r.2.1 ((i-1:Nat):Int)).1=x4
  cases x1<;>cases x2<;>cases x3<;>cases x4<;>rfl
theorem ZdF (r:Tup Yc) (hl:r.2.1.length≤4398046511104):r143 (r,())=some ((KI r,()),()):=by
 have key:=ZbM (fun k i=>n143_0 r28 r74 k () (r,()) ((i:Int),())) r.2.1.length (Vb r.2.1) (Sum.inl ((r.2.1.length:Int),()),(r,())) (Sum.inr (false,()),(r,()))
  (fun k i h hq=>by simp only[ZcL r hl k i h,hq,cond_true])
  (fun k i h hq=>by simp only[ZcL r hl k i h,hq,cond_false])
  (fun k=>by
   simp only[n143_0,w143_0,Zl]
   rw[Zp (by omega)];rfl) fuel 0 (by omega) (by have:=ZQ;omega)
 unfold r143 m143 L143_0
 simp only[Zl]
 simp only[Int.natCast_zero,Nat.sub_zero]at key
 rw[key]
 unfold KI
 cases (List.range' 0 r.2.1.length).all (Vb r.2.1)with
 |false=>rfl
 |true=>simp only[if_true,Option.bind_some,Zu,JT,QY,Bool.true_and]
def W5 (r:Tup Yc) (t:Int):Bool:=if r.2.1.length=0 then true else leI t (rdE .t r.2.1 (0:Int)).1
theorem Zf3 (r:Tup Yc) (t:Int) (hl:r.2.1.length≤4398046511104):r159 (r,(t,()))=some ((KI r&&W5 r t,()),()):=by
 unfold r159 m159
 simp only[Zh9 r hl,Option.bind_some,Zl]
 unfold W5
 cases KI r with
 |false=>rfl
 |true=>
  by_cases h:r.2.1.length=0
  ·rw[Zi (by omega),if_pos h];rfl
  ·rw[Zd (by omega),if_neg h,Zf (by omega)];rfl
def XN (f:List (List Int)) (t:Int):Bool:=f.all (fun l=>eqI (l.length:Int) 48)&&eqI (f.length:Int) (Int.tdiv (t+15) 64)
theorem Ziy {t c d:Int} (h0:0≤t) (h1:t≤20000) (hc:0≤c) (hc2:c≤64) (hd:d=64∨d=16):wI (Int.tdiv (t+c) d)=Int.tdiv (t+c) d:=by
 rw[Int.tdiv_eq_ediv_of_nonneg (by omega)]
 rcases hd with rfl|rfl<;>exact Zj (by omega) (by omega)
theorem ZbS (f:List (List Int)) (t:Int) (hf:f.length≤4398046511104) (h0:0≤t) (h1:t≤20000):r160 (f,(t,()))=some ((XN f t,()),()):=by
 have key:=Kl (fun k i=>n160_0 r223 k (f,((f.length:Int),())) () ((i:Int),())) f (fun l=>eqI (l.length:Int) 48) (Sum.inl ((f.length:Int),()),()) (Sum.inr (false,()),())
  (fun k i h hq=>by
   simp only[n160_0,w160_0,Zl]
   rw[Zf (by omega),Zo (by omega),QC .n f i h,Jd (by omega)]
   have:(f[i].length:Int)=48:=by simpa [Qk] using hq
   rw[JU this]
   simp only[cond_true,cond_false])
  (fun k i h hq=>by
   simp only[n160_0,w160_0,Zl]
   rw[Zf (by omega),Zo (by omega),QC .n f i h]
   have: ¬(f[i].length:Int)=48:=by simpa [Qk] using hq
   rw[Jy this]
   simp only[cond_true])
  (fun k=>by
   simp only[n160_0,w160_0,Zl]
   rw[Zp (by omega)];rfl) fuel 0 (by omega) (by have:=ZQ;omega)
 unfold r160 m160 L160_0
 simp only[Zl]
 simp only[Int.natCast_zero,List.drop_zero]at key
 rw[key]
 unfold XN
 cases f.all (fun l=>eqI (l.length:Int) 48)with
 |false=>rfl
 |true=>
  have hc:r223 (t,((48:Int),((64:Int),())))=some ((Int.tdiv (t+15) 64,()),()):=by
   unfold r223 m223
   simp only
   rw[Jy (by omega),Zj (x:=t+64) (by omega) (by omega),Zj (x:=t+64-1) (by omega) (by omega),Zj (x:=t+64-1-48) (by omega) (by omega),show t+64-1-48=t+15 by omega,Ziy h0 h1 (by omega) (by omega) (.inl rfl)]
   rfl
  simp only[if_true,Option.bind_some,Zu,hc,Bool.true_and]
theorem Zb5 (f:List (List Int)) (t:Int) (hf:f.length≤4398046511104) (h0:0≤t) (h1:t≤20000):r144 (f,(t,()))=some ((XN f t,()),()):=by
 have key:=Kl (fun k i=>n144_0 r214 k (f,()) () ((i:Int),())) f (fun l=>eqI (l.length:Int) 48) (Sum.inl ((f.length:Int),()),()) (Sum.inr (false,()),())
  (fun k i h hq=>by
   simp only[n144_0,w144_0,Zl]
   rw[Zf (by omega),Zo (by omega),QC .n f i h,Jd (by omega)]
   have:(f[i].length:Int)=48:=by simpa [Qk] using hq
   rw[JU this]
   simp only[cond_true,cond_false])
  (fun k i h hq=>by
   simp only[n144_0,w144_0,Zl]
   rw[Zf (by omega),Zo (by omega),QC .n f i h]
   have: ¬(f[i].length:Int)=48:=by simpa [Qk] using hq
   rw[Jy this]
   simp only[cond_true])
  (fun k=>by
   simp only[n144_0,w144_0,Zl]
   rw[Zp (by omega)];rfl) fuel 0 (by omega) (by have:=ZQ;omega)
 unfold r144 m144 L144_0
 simp only[Zl]
 simp only[Int.natCast_zero,List.drop_zero]at key
 rw[key]
 unfold XN
 cases f.all (fun l=>eqI (l.length:Int) 48)with
 |false=>rfl
 |true=>
  have hc:r214 (t,())=some ((Int.tdiv (t+15) 64,()),()):=by
   unfold r214 m214
   simp only
   rw[Zj (x:=t+64) (by omega) (by omega),Zj (x:=t+64-48) (by omega) (by omega),Zj (x:=t+64-48-1) (by omega) (by omega),show t+64-48-1=t+15 by omega,Ziy h0 h1 (by omega) (by omega) (.inl rfl)]
  simp only[if_true,Option.bind_some,Zu,hc,Bool.true_and]
def W7 (s:List Int) (t:Int):Bool:=eqI (s.length:Int) (Int.tdiv t 16)
theorem ZbH (s:List Int) (t:Int) (h0:0≤t) (h1:t≤20000):r162 (s,(t,()))=some ((W7 s t,()),()):=by
 unfold r162 m162 r223 m223
 simp only
 rw[Jy (by omega),Zj (x:=t+16) (by omega) (by omega),Zj (x:=t+16-1) (by omega) (by omega),Zj (x:=t+16-1-15) (by omega) (by omega),show t+16-1-15=t+0 by omega,Ziy h0 h1 (by omega) (by omega) (.inr rfl),Int.add_zero]
 rfl
abbrev K8:List LT:=J9++(Yc++[.sl false .n])
abbrev Vc:List LT:=KV++(Yc++[.sl false .i])
abbrev Wh (w:Tup K8):Tup J9:=(w.1,(w.2.1,(w.2.2.1,(w.2.2.2.1,(w.2.2.2.2.1,(w.2.2.2.2.2.1,(w.2.2.2.2.2.2.1,(w.2.2.2.2.2.2.2.1,()))))))))
abbrev XZ (w:Tup K8):Tup Yc:=(w.2.2.2.2.2.2.2.2.1,(w.2.2.2.2.2.2.2.2.2.1,()))
abbrev Zmy (w:Tup Vc):Tup KV:=(w.1,(w.2.1,(w.2.2.1,(w.2.2.2.1,(w.2.2.2.2.1,(w.2.2.2.2.2.1,(w.2.2.2.2.2.2.1,())))))))
abbrev Kf (w:Tup Vc):Tup Yc:=(w.2.2.2.2.2.2.2.1,(w.2.2.2.2.2.2.2.2.1,()))
def Zjt (w:Tup K8):Prop:=K9 (Wh w)∧(XZ w).2.1.length≤4398046511104∧small w.2.2.2.2.2.2.2.2.2.2.1
def ZjH (w:Tup Vc):Prop:=(Kf w).2.1.length≤4398046511104∧w.2.2.2.2.2.2.2.2.2.1.length≤4398046511104
def VF (w:Tup K8):Bool:=YL (Wh w)&&(KI (XZ w)&&(W5 (XZ w) w.1&&XN w.2.2.2.2.2.2.2.2.2.2.1 w.1))
def VK (w:Tup Vc):Bool:=Y3 (Zmy w)&&(KI (Kf w)&&(W5 (Kf w) w.1&&W7 w.2.2.2.2.2.2.2.2.2.1 w.1))
theorem Zn4 {p:Tup J9} (h:YL p=true):0≤p.1∧p.1≤20000:=by
 simp only[YL,Zju,Bool.and_eq_true]at h
 exact JS.1 h.1.1
theorem ZmR {p:Tup KV} (h:Y3 p=true):0≤p.1∧p.1≤20000:=by
 simp only[Y3,Bool.and_eq_true]at h
 exact JS.1 h.1
theorem ZeH (w:Tup K8) (h:Zjt w):r83 (w,())=some ((VF w,()),()):=by
 unfold r83 m83 VF
 obtain ⟨h1,h2,h3⟩:=h
 simp only[Zev (Wh w) h1,Zf3 (XZ w) w.1 h2,Option.bind_some]
 cases e:YL (Wh w)with
 |false=>rfl
 |true=>
  obtain ⟨t0,t1⟩:=Zn4 e
  simp only[ZbS w.2.2.2.2.2.2.2.2.2.2.1 w.1 h3.1 t0 t1,Option.bind_some,cond_true,QY,Bool.and_assoc,Bool.true_and]
theorem ZbK (w:Tup K8) (h:Zjt w):r72 (w,())=some ((VF w,()),()):=by
 unfold r72 m72 VF
 obtain ⟨h1,h2,h3⟩:=h
 simp only[ZaW (Wh w) h1,ZdF (XZ w) h2,Option.bind_some,Zl]
 cases e:YL (Wh w)with
 |false=>rfl
 |true=>
  obtain ⟨t0,t1⟩:=Zn4 e
  simp only[Zb5 w.2.2.2.2.2.2.2.2.2.2.1 w.1 h3.1 t0 t1,Option.bind_some,Bool.not_true,cond_false,Bool.true_and]
  unfold W5
  cases KI (XZ w)with
  |false=>rfl
  |true=>
   by_cases hz:(XZ w).2.1.length=0
   ·rw[Zi (by have:w.2.2.2.2.2.2.2.2.2.1.length=0:=hz;omega),if_pos hz]
    simp
   ·rw[Zd (by have: ¬w.2.2.2.2.2.2.2.2.2.1.length=0:=hz;omega),if_neg hz,Zf (by have: ¬w.2.2.2.2.2.2.2.2.2.1.length=0:=hz;omega)]
    simp only[QY,Bool.not_true,cond_false,cond_true,Bool.true_and]
theorem ZgF (w:Tup Vc) (h:ZjH w):r84 (w,())=some ((VK w,()),()):=by
 unfold r84 m84 VK
 obtain ⟨h1,h2⟩:=h
 simp only[ZaN (Zmy w),Zf3 (Kf w) w.1 h1,Option.bind_some]
 cases e:Y3 (Zmy w)with
 |false=>rfl
 |true=>
  obtain ⟨t0,t1⟩:=ZmR e
  simp only[ZbH w.2.2.2.2.2.2.2.2.2.1 w.1 t0 t1,Option.bind_some,cond_true,QY,Bool.and_assoc,Bool.true_and]
theorem ZcM (w:Tup Vc) (h:ZjH w):r73 (w,())=some ((VK w,()),()):=by
 unfold r73 m73 VK
 obtain ⟨h1,h2⟩:=h
 simp only[ZaV (Zmy w),ZdF (Kf w) h1,Option.bind_some,Zl]
 cases e:Y3 (Zmy w)with
 |false=>rfl
 |true=>
  obtain ⟨t0,t1⟩:=ZmR e
  have et:wI (Int.tdiv w.1 16)=Int.tdiv w.1 16:=by
   have:=Ziy (c:=0) t0 t1 (by omega) (by omega) (.inr rfl:(16:Int)=64∨(16:Int)=16)
   simpa using this
  rw[et]
  unfold W5 W7
  cases KI (Kf w)with
  |false=>rfl
  |true=>
   by_cases hz:(Kf w).2.1.length=0
   ·rw[Zi (show (w.2.2.2.2.2.2.2.2.1.length:Int)=0 by have:w.2.2.2.2.2.2.2.2.1.length=0:=hz;omega),if_pos hz]
    simp
   ·rw[Zd (show¬(w.2.2.2.2.2.2.2.2.1.length:Int)=0 by have: ¬w.2.2.2.2.2.2.2.2.1.length=0:=hz;omega),if_neg hz,Zf (by have: ¬w.2.2.2.2.2.2.2.2.1.length=0:=hz;omega)]
    simp only[QY,Bool.not_true,cond_false,cond_true,Bool.true_and]
abbrev Qi:List LT:= .sl false .n:: .sl false .i::(XT++(Yr++(UE++(.int .i64:: .bool:: .int .i64:: .bool:: .int .i64:: .int .i64:: .sl false .i::(K8++Vc)))))
section
variable (s:Tup Qi)
abbrev VL:List (List Int):=s.1
abbrev VM:List Int:=s.2.1
abbrev Vd:Tup XT:=(s.2.2.1,(s.2.2.2.1,()))
abbrev Xs:Tup Yr:=(s.2.2.2.2.1,(s.2.2.2.2.2.1,(s.2.2.2.2.2.2.1,(s.2.2.2.2.2.2.2.1,(s.2.2.2.2.2.2.2.2.1,(s.2.2.2.2.2.2.2.2.2.1,(s.2.2.2.2.2.2.2.2.2.2.1,(s.2.2.2.2.2.2.2.2.2.2.2.1,()))))))))
abbrev Zra:Tup UE:=(s.2.2.2.2.2.2.2.2.2.2.2.2.1,(s.2.2.2.2.2.2.2.2.2.2.2.2.2.1,()))
abbrev Zrb:Int:=s.2.2.2.2.2.2.2.2.2.2.2.2.2.1
abbrev spT:Int:=s.2.2.2.2.2.2.2.2.2.2.2.2.2.2.1
abbrev ZrX:Bool:=s.2.2.2.2.2.2.2.2.2.2.2.2.2.2.2.1
abbrev Zqc:Int:=s.2.2.2.2.2.2.2.2.2.2.2.2.2.2.2.2.1
abbrev Zq9:Bool:=s.2.2.2.2.2.2.2.2.2.2.2.2.2.2.2.2.2.1
abbrev ZjI:Int:=s.2.2.2.2.2.2.2.2.2.2.2.2.2.2.2.2.2.2.1
abbrev ZkG:Int:=s.2.2.2.2.2.2.2.2.2.2.2.2.2.2.2.2.2.2.2.1
abbrev Zee:List Int:=s.2.2.2.2.2.2.2.2.2.2.2.2.2.2.2.2.2.2.2.2.1
abbrev Jr:Tup K8:=(s.2.2.2.2.2.2.2.2.2.2.2.2.2.2.2.2.2.2.2.2.2.1,(s.2.2.2.2.2.2.2.2.2.2.2.2.2.2.2.2.2.2.2.2.2.2.1,(s.2.2.2.2.2.2.2.2.2.2.2.2.2.2.2.2.2.2.2.2.2.2.2.1,(s.2.2.2.2.2.2.2.2.2.2.2.2.2.2.2.2.2.2.2.2.2.2.2.2.1,(s.2.2.2.2.2.2.2.2.2.2.2.2.2.2.2.2.2.2.2.2.2.2.2.2.2.1,(s.2.2.2.2.2.2.2.2.2.2.2.2.2.2.2.2.2.2.2.2.2.2.2.2.2.2.1,(s.2.2.2.2.2.2.2.2.2.2.2.2.2.2.2.2.2.2.2.2.2.2.2.2.2.2.2.1,(s.2.2.2.2.2.2.2.2.2.2.2.2.2.2.2.2.2.2.2.2.2.2.2.2.2.2.2.2.1,(s.2.2.2.2.2.2.2.2.2.2.2.2.2.2.2.2.2.2.2.2.2.2.2.2.2.2.2.2.2.1,(s.2.2.2.2.2.2.2.2.2.2.2.2.2.2.2.2.2.2.2.2.2.2.2.2.2.2.2.2.2.2.1,(s.2.2.2.2.2.2.2.2.2.2.2.2.2.2.2.2.2.2.2.2.2.2.2.2.2.2.2.2.2.2.2.1,())))))))))))
abbrev JH:Tup Vc:=s.2.2.2.2.2.2.2.2.2.2.2.2.2.2.2.2.2.2.2.2.2.2.2.2.2.2.2.2.2.2.2.2
end
theorem Zkn (a b:Int):ltI a b= !leI b a:=by
 by_cases h:a<b
 ·rw[Zf h,YI (by omega)];rfl
 ·rw[Zp h,Zo (by omega)];rfl
def VG (r:Tup Yc) (t:Int):Bool:=if r.2.1.length=0 then true else leI (rdE .t r.2.1 ((r.2.1.length-1:Nat):Int)).1 t
theorem Zf4 (r:Tup Yc) (t:Int) (hl:r.2.1.length≤4398046511104):r88 (r,(t,()))=some ((VG r t,()),()):=by
 unfold r88 m88 VG
 simp only[Zl]
 by_cases h:r.2.1.length=0
 ·rw[Zi (by omega),if_pos h];rfl
 ·rw[Zd (by omega),if_neg h,ZiB h (by omega),Zo (by omega),Zf (by omega)];rfl
def Zps (r:Tup Yc):Int:=if r.2.1.length=0 then 0 else (rdE .t r.2.1 ((r.2.1.length-1:Nat):Int)).1
theorem Zha (r:Tup Yc) (hl:r.2.1.length≤4398046511104):r75 (r,())=some ((Zps r,()),()):=by
 unfold r75 m75 Zps
 simp only[Zl]
 by_cases h:r.2.1.length=0
 ·rw[Zi (by omega),if_pos h];rfl
 ·rw[Zd (by omega),if_neg h,ZiB h (by omega),Zo (by omega),Zf (by omega)];rfl
theorem Zlc (r:Tup Yc) (t:Int) (h:0≤t):leI (Zps r) t=VG r t:=by
 unfold Zps VG
 split
 ·rw[Zo h]
 ·rfl
def ZM (s:Tup Qi):Prop:=small (VL s)∧(VM s).length≤4398046511104∧(Vd s).1.length≤4398046511104∧(Zee s).length≤4398046511104∧Zjt (Jr s)∧ZjH (JH s)
def ZeW (s:Tup Qi):Bool:=inR 0 255 (Zrb s)&&(inR 0 255 (Zqc s)&&(inR 0 20000 (spT s)&&(inR 0 (spT s) (ZjI s)&&inR 0 (spT s) (ZkG s))))
def Zbc (s:Tup Qi):Bool:=Xn (VL s) (Vd s)&&(XY (VM s)&&(Yj (Xs s)&&(VF (Jr s)&&VK (JH s))))
def ZeV (s:Tup Qi):Bool:=leI (Jr s).1 (spT s)&&(leI (JH s).1 (spT s)&&(VG (XZ (Jr s)) (spT s)&&VG (Kf (JH s)) (spT s)))
def Qd (s:Tup Qi):Bool:=Zbc s&&(ZeW s&&ZeV s)
theorem Vu (s:Tup Qi) (h:ZM s):r17 (s,())=some ((Qd s,()),()):=by
 unfold r17 m17
 obtain ⟨h1,h2,h3,_,h5,h6⟩:=h
 simp only[ZbU (VL s) (Vd s) h1 h3,Zbj (VM s) (by omega),ZbR (Xs s),ZeH (Jr s) h5,ZgF (JH s) h6,WQ,Zdg,XB,
  Zf4 (XZ (Jr s)) _ h5.2.1,Zf4 (Kf (JH s)) _ h6.1,Option.bind_some]
 unfold Qd Zbc ZeW ZeV
 generalize Xn (VL s) (Vd s)=x0
 generalize XY (VM s)=x1
 generalize Yj (Xs s)=x2
 generalize VF (Jr s)=x3
 generalize VK (JH s)=x4
 generalize VG (XZ (Jr s)) (spT s)=x5
 generalize VG (Kf (JH s)) (spT s)=x6
 cases x0<;>cases x1<;>cases x2<;>cases x3<;>cases x4<;>first| (simp[QY];done)| (simp[QY,Bool.and_assoc];done)
theorem KK (s:Tup Qi) (h:ZM s):r15 (s,())=some ((Qd s,()),()):=by
 unfold r15 m15
 obtain ⟨h1,h2,h3,_,h5,h6⟩:=h
 simp only[Zb6 (VL s) (Vd s) h1 h3,ZbA (VM s) (by omega),Zb4 (Xs s),ZbK (Jr s) h5,ZcM (JH s) h6,Vv,JT,
  Zha (XZ (Jr s)) h5.2.1,Zha (Kf (JH s)) h6.1,Option.bind_some]
 unfold Qd Zbc ZeW ZeV
 generalize Xn (VL s) (Vd s)=x0
 generalize XY (VM s)=x1
 generalize Yj (Xs s)=x2
 generalize VF (Jr s)=x3
 generalize VK (JH s)=x4
 cases hT:inR 0 20000 (spT s)with
 |false=>cases x0<;>cases x1<;>cases x2<;>cases x3<;>cases x4<;>simp[Uk]
 |true=>
  have t0:=(JS.1 hT).1
  rw[Zlc _ _ t0,Zlc _ _ t0]
  have e1:ltI (spT s) (Jr s).1= !leI (Jr s).1 (spT s):=Zkn _ _
  have e2:ltI (spT s) (JH s).1= !leI (JH s).1 (spT s):=Zkn _ _
  rw[e1,e2]
  cases x0<;>cases x1<;>cases x2<;>cases x3<;>cases x4<;>first| (simp[Uk,QY];done)| (simp[Uk,QY,Bool.and_assoc];done)| (simp[Uk,QY,Bool.and_assoc];rfl)
theorem Xj (l:List Int) (h:l.length≤4398046511104):r112 (l,())=some ((l,()),()):=by
 unfold r112 m112
 rw[ZO (by simp only[E.most];omega)]
 rfl
theorem ZbP (f:List (List Int)) (h:small f):r111 ((f,()),())=some (((f,()),()),()):=by
 have h0:=h.1
 have key:=Zah (fun k i out=>n111_0 r112 k (f,((f.length:Int),())) ((out,()),()) ((i:Int),())) f (fun out=>(Sum.inl ((f.length:Int),()),((out,()),())))
  (fun k i out hi ho=>by
   simp only[n111_0,w111_0,Zl]
   rw[Zf (by omega),Zo (by omega),QC .n f i hi,Jd (by omega),Xj _ (h.2.1 _ (List.getElem_mem hi))]
   simp only[cond_true,Option.bind_some]
   rw[ZO (by simp only[E.most,List.length_singleton];omega)]
   rfl)
  (fun k out ho=>by
   simp only[n111_0,w111_0,Zl]
   rw[Zp (by omega)];rfl) fuel 0 [] (by omega) rfl (by have:=ZQ;omega)
 unfold r111 m111 L111_0
 simp only[Zl]
 simp only[Int.natCast_zero,List.drop_zero,List.nil_append]at key
 rw[key]
 rfl
theorem Zal (f:List (List Int)) (h:small f):r92 ((f,()),())=some (((f,()),()),()):=by
 have h0:=h.1
 have key:=Zah (fun k i out=>n92_0 k () ((f,()),((out,()),())) ((i:Int),())) f (fun out=>(Sum.inl ((f.length:Int),()),((f,()),((out,()),()))))
  (fun k i out hi ho=>by
   have hl:=h.2.1 _ (List.getElem_mem hi)
   simp only[n92_0,w92_0,Zl]
   rw[Zf (by omega),Zo (by omega),QC .n f i hi,Jd (by omega)]
   rw[ZO (by simp only[E.most];omega),ZO (by simp only[E.most,List.length_singleton];omega)]
   rfl)
  (fun k out ho=>by
   simp only[n92_0,w92_0,Zl]
   rw[Zp (by omega)];rfl) fuel 0 [] (by omega) rfl (by have:=ZQ;omega)
 unfold r92 m92 L92_0
 simp only[Int.natCast_zero,List.drop_zero,List.nil_append]at key
 rw[key]
 rfl
theorem Zbi (f:List (List Int)) (h:small f):r189 (f,())=some ((f,()),()):=by
 have h0:=h.1
 have key:=Zah (fun k i out=>n189_0 r112 k (f,((f.length:Int),())) () (out,((i:Int),()))) f (fun out=>(Sum.inl (out,((f.length:Int),())),()))
  (fun k i out hi ho=>by
   simp only[n189_0,w189_0,Zl]
   rw[Zf (by omega),Zo (by omega),QC .n f i hi,Jd (by omega),Xj _ (h.2.1 _ (List.getElem_mem hi))]
   simp only[cond_true,Option.bind_some]
   rw[ZO (by simp only[E.most,List.length_singleton];omega)]
   rfl)
  (fun k out ho=>by
   simp only[n189_0,w189_0,Zl]
   rw[Zp (by omega)];rfl) fuel 0 [] (by omega) rfl (by have:=ZQ;omega)
 unfold r189 m189 L189_0
 simp only[Zl]
 simp only[Int.natCast_zero,List.drop_zero,List.nil_append]at key
 rw[key]
 rfl
theorem Zcl (f:List (List Int)) (h:small f):r166 (f,())=some ((f,()),()):=by
 have h0:=h.1
 have key:=Zah (fun k i out=>n166_0 k (f,()) () (out,((i:Int),()))) f (fun out=>(Sum.inl (out,((f.length:Int),())),()))
  (fun k i out hi ho=>by
   have hl:=h.2.1 _ (List.getElem_mem hi)
   simp only[n166_0,w166_0,Zl]
   rw[Zf (by omega),Zo (by omega),QC .n f i hi,Jd (by omega)]
   rw[ZO (by simp only[E.most];omega),ZO (by simp only[E.most,List.length_singleton];omega)]
   rfl)
  (fun k out ho=>by
   simp only[n166_0,w166_0,Zl]
   rw[Zp (by omega)];rfl) fuel 0 [] (by omega) rfl (by have:=ZQ;omega)
 unfold r166 m166 L166_0
 simp only[Int.natCast_zero,List.drop_zero,List.nil_append]at key
 rw[key]
 rfl
theorem ZgU (x:Tup XT) (h:x.1.length≤4398046511104):r113 (x,())=some ((x,()),()):=by
 unfold r113 m113
 exact Za (Xj x.1 h) rfl
theorem Zdl (x:Tup XT) (h:x.1.length≤4398046511104):r93 (x,())=some ((x,()),()):=by
 unfold r93 m93
 simp only
 rw[ZO (by simp only[E.most];omega)]
 rfl
theorem ZgV (p:Tup J9) (h:K9 p):r187 (p,())=some ((p,()),()):=by
 unfold r187 m187
 exact Za (Xj p.2.2.2.2.2.2.1 h.1) (Za (Xj p.2.2.2.2.2.2.2.1 h.2) rfl)
theorem Uw (p:Tup J9) (h:K9 p):r164 (p,())=some ((p,()),()):=by
 unfold r164 m164
 obtain ⟨h1,h2⟩:=h
 simp only
 rw[ZO (by simp only[E.most];omega),ZO (by simp only[E.most];omega)]
 rfl
theorem Zfd (r:Tup Yc) (h:r.2.1.length≤4398046511104):r188 (r,())=some ((r,()),()):=by
 unfold r188 m188
 simp only
 rw[ZO (by simp only[E.most];omega)]
 rfl
theorem Zcm (r:Tup Yc) (h:r.2.1.length≤4398046511104):r165 (r,())=some ((r,()),()):=by
 unfold r165 m165
 simp only
 rw[ZO (by simp only[E.most];omega)]
 rfl
theorem Zgy (w:Tup K8) (h:Zjt w):r114 (w,())=some ((w,()),()):=by
 unfold r114 m114
 exact Za (ZgV (Wh w) h.1) (Za (Zfd (XZ w) h.2.1) (Za (Zbi w.2.2.2.2.2.2.2.2.2.2.1 h.2.2) rfl))
theorem ZiP (w:Tup Vc) (h:ZjH w):r115 (w,())=some ((w,()),()):=by
 unfold r115 m115
 exact Za (Zfd (Kf w) h.1) (Za (Xj w.2.2.2.2.2.2.2.2.2.1 h.2) rfl)
theorem U5 (s:Tup Qi) (h:ZM s):r38 (s,())=some ((s,()),()):=by
 unfold r38 m38
 obtain ⟨h1,h2,h3,h4,h5,h6⟩:=h
 exact Za (ZbP (VL s) h1) (Za (Xj (VM s) h2) (Za (ZgU (Vd s) h3) (Za (Xj (Zee s) h4) (Za (Zgy (Jr s) h5) (Za (ZiP (JH s) h6) rfl)))))
abbrev Zis (s:Tup Qi):List (List Int):=(Jr s).2.2.2.2.2.2.2.2.2.2.1
abbrev ZdB (s:Tup Qi):List Int:=(JH s).2.2.2.2.2.2.2.2.2.1
def UB (s:Tup Qi):Tup K6:=(Zis s,(ZdB s,(Zee s,())))
theorem Zes (s:Tup Qi) (h:ZM s):r151 (s,())=some ((UB s,()),()):=by
 unfold r151 m151
 obtain ⟨h1,h2,h3,h4,h5,h6⟩:=h
 exact Za (Zbi (Zis s) h5.2.2) (Za (Xj (ZdB s) h6.2) (Za (Xj (Zee s) h4) rfl))
theorem ZeC (s:Tup Qi) (h:ZM s):r235 (s,())=some ((UB s,()),()):=by
 unfold r235 m235
 obtain ⟨h1,h2,h3,h4,h5,h6⟩:=h
 refine Za (Zcl (Zis s) h5.2.2) ?_
 have a1:(ZdB s).length≤4398046511104:=h6.2
 rw[ZO (show 0+(ZdB s).length≤E.most .i by simp only[E.most];omega),ZO (show 0+(Zee s).length≤E.most .i by simp only[E.most];omega)]
 rfl
def Zn0 (s:Tup Qi):Bool:=eqI (Jr s).1 (spT s)&&eqI ((XZ (Jr s)).2.1.length:Int) 0
def Zol (s:Tup Qi):Bool:=eqI (JH s).1 (spT s)&&eqI ((Kf (JH s)).2.1.length:Int) 0
theorem ZbI (s:Tup Qi):r219 (s,())=some ((Zn0 s,()),()):=by
 unfold r219 m219
 simp only[Zl,QY]
 rfl
theorem ZaZ (s:Tup Qi):r220 (s,())=some ((Zol s,()),()):=by
 unfold r220 m220
 simp only[Zl,QY]
 rfl
theorem ZbY (s:Tup Qi):r174 (s,())=some ((Zn0 s,()),()):=by
 unfold r174 m174
 simp only[Zl,QY]
 rfl
theorem Zbn (s:Tup Qi):r169 (s,())=some ((Zol s,()),()):=by
 unfold r169 m169
 simp only[Zl,QY]
 rfl
def Zmj:Tup Y8:=([],([],([],(0,(0,(0,(0,(0,(false,(false,(false,(false,(0,(0,(0,(0,(0,(false,([],([],(0,(0,(0,(0,(0,(false,(false,(false,(0,(false,(0,([],([],([],()))))))))))))))))))))))))))))))))))
def Zqi (s:Tup Qi):Tup Y8:=(VL s,(VM s,((Vd s).1,((Vd s).2.1,((Xs s).1,((Xs s).2.1,((Xs s).2.2.1,((Xs s).2.2.2.1,((Xs s).2.2.2.2.1,((Xs s).2.2.2.2.2.1,((Xs s).2.2.2.2.2.2.1,((Xs s).2.2.2.2.2.2.2.1,
 ((Jr s).1,((Jr s).2.1,((Jr s).2.2.1,((Jr s).2.2.2.1,((Jr s).2.2.2.2.1,((Jr s).2.2.2.2.2.1,((Jr s).2.2.2.2.2.2.1,((Jr s).2.2.2.2.2.2.2.1,
 ((JH s).1,((JH s).2.1,((JH s).2.2.1,((JH s).2.2.2.1,((JH s).2.2.2.2.1,((JH s).2.2.2.2.2.1,((JH s).2.2.2.2.2.2.1,((Zra s).1,((Zra s).2.1,(ZrX s,(ZkG s,UB s)))))))))))))))))))))))))))))))
def V1 (s:Tup Qi):Tup Y8:=if Qd s&&(Zn0 s&&Zol s)then Zqi s else Zmj
theorem Zh5 (s:Tup Qi) (h:ZM s):r153 (s,())=some ((V1 s,()),()):=by
 unfold r153 m153 V1
 refine Za (Vu s h) ?_
 cases Qd s with
 |false=>rfl
 |true=>
  refine Za (ZbI s) ?_
  cases Zn0 s with
  |false=>rfl
  |true=>
   refine Za (ZaZ s) ?_
   cases Zol s with
   |false=>rfl
   |true=>exact Za (U5 s h) (Za (Zes s h) rfl)
theorem Zit (s:Tup Qi) (h:ZM s):r237 (s,())=some ((V1 s,()),()):=by
 unfold r237 m237 V1
 have h':=h
 obtain ⟨h1,h2,h3,h4,h5,h6⟩:=h
 refine Za (KK s h') ?_
 cases Qd s with
 |false=>rfl
 |true=>
  refine Za (ZbY s) ?_
  cases Zn0 s with
  |false=>rfl
  |true=>
   refine Za (Zbn s) ?_
   cases Zol s with
   |false=>rfl
   |true=>
    refine Za (Zal (VL s) h1) ?_
    rw[ZO (show 0+(VM s).length≤E.most .i by simp only[E.most];omega)]
    exact Za (Zdl (Vd s) h3) (Za (Uw (Wh (Jr s)) h5.1) (Za (ZeC s h') rfl))
theorem mod256 (x:Int):0≤x%256∧x%256≤255:=by omega
theorem Y7 (y:PTup i316):r316 y=some (((y.1:Int)%256,()),()):=by
 unfold r316 m316
 rw[Kn]
theorem Ja (y:PTup i230):r230 y=some (((y.1:Int)%256,()),()):=by
 unfold r230 m230
 rw[Kn]
theorem ZaG (y:PTup i315):r315 y=some (((y.1:Int)%65536,()),()):=by
 unfold r315 m315
 rw[ZgS]
theorem VN (y:PTup i229):r229 y=some (((y.1:Int)%65536,()),()):=by
 unfold r229 m229
 rw[ZgS]
def QR (b:Bool):Int:=if b then 1 else 0
theorem Zfn (y:PTup i353):r353 y=some ((QR y.1,()),()):=by
 unfold r353 m353 QR
 obtain ⟨b,_⟩:=y
 cases b<;>rfl
theorem Zdj (y:PTup i343):r343 y=some ((QR y.1,()),()):=by
 unfold r343 m343 QR
 obtain ⟨b,_⟩:=y
 cases b<;>rfl
theorem XL (b:Bool):0≤QR b∧QR b≤1:=by cases b<;>simp[QR]
def Kw (lo hi:Int):Int:=lo%256+256*(hi%256)
theorem ZaH (y:PTup i261):r261 y=some ((Kw y.1 y.2.1,()),()):=by
 unfold r261 m261 Kw
 obtain ⟨lo,hi,_⟩:=y
 simp only[Y7,Option.bind_some]
 have h1:=mod256 lo
 have h2:=mod256 hi
 rw[Zj (x:=256*(hi%256)) (by omega) (by omega),Zj (by omega) (by omega)]
theorem Zbx (y:PTup i227):r227 y=some ((Kw y.1 y.2.1,()),()):=by
 unfold r227 m227 Kw
 obtain ⟨lo,hi,_⟩:=y
 simp only[Ja,Option.bind_some]
 have h1:=mod256 lo
 have h2:=mod256 hi
 rw[Zj (x:=256*(hi%256)) (by omega) (by omega),Zj (by omega) (by omega)]
theorem ZbW (y:PTup i358):r358 y=some ((eqI ((y.1:Int)%256) 0,(ltI 127 ((y.1:Int)%256),())),()):=by
 unfold r358 m358
 simp only[Y7,Option.bind_some]
theorem Zcb (y:PTup i347):r347 y=some ((eqI ((y.1:Int)%256) 0,(ltI 127 ((y.1:Int)%256),())),()):=by
 unfold r347 m347
 simp only[Ja,Option.bind_some]
def KU (a b:Int) (c:Bool):Int:=a%256+b%256+QR c
theorem Zfu (y:PTup i356):r356 y=some ((KU y.1 y.2.1 y.2.2.1%256,(ltI 255 (KU y.1 y.2.1 y.2.2.1),())),()):=by
 unfold r356 m356 KU
 obtain ⟨a,b,c,_⟩:=y
 simp only[Y7,Zfn,Option.bind_some]
 have h1:=mod256 a
 have h2:=mod256 b
 have h3:=XL c
 rw[Zj (x:=a%256+b%256) (by omega) (by omega),Zj (x:=a%256+b%256+QR c) (by omega) (by omega)]
theorem ZkH (y:PTup i376):r376 y=some ((KU y.1 y.2.1 y.2.2.1%256,(ltI 255 (KU y.1 y.2.1 y.2.2.1),())),()):=by
 unfold r376 m376 KU
 obtain ⟨a,b,c,_⟩:=y
 simp only[Ja,Zdj,Option.bind_some]
 have h1:=mod256 a
 have h2:=mod256 b
 have h3:=XL c
 rw[Zj (x:=a%256+b%256) (by omega) (by omega),Zj (x:=a%256+b%256+QR c) (by omega) (by omega)]
def YX (a b:Int) (c:Bool):Int:=a%256-b%256-1+QR c
theorem ZfC (y:PTup i357):r357 y=some ((YX y.1 y.2.1 y.2.2.1%256,(leI 0 (YX y.1 y.2.1 y.2.2.1),())),()):=by
 unfold r357 m357 YX
 obtain ⟨a,b,c,_⟩:=y
 simp only[Y7,Zfn,Option.bind_some]
 have h1:=mod256 a
 have h2:=mod256 b
 have h3:=XL (!c)
 rw[Zj (x:=a%256-b%256) (by omega) (by omega),Zj (x:=a%256-b%256-QR (!c)) (by omega) (by omega),show a%256-b%256-QR (!c)=a%256-b%256-1+QR c by cases c<;>simp[QR]]
theorem ZkK (y:PTup i346):r346 y=some ((YX y.1 y.2.1 y.2.2.1%256,(leI 0 (YX y.1 y.2.1 y.2.2.1),())),()):=by
 unfold r346 m346 YX
 obtain ⟨a,b,c,_⟩:=y
 simp only[Ja,Zdj,Option.bind_some]
 have h1:=mod256 a
 have h2:=mod256 b
 have h3:=XL c
 rw[Zj (x:=a%256-b%256) (by omega) (by omega),Zj (x:=a%256-b%256-1) (by omega) (by omega),Zj (x:=a%256-b%256-1+QR c) (by omega) (by omega)]
theorem XX {n:Int} (h:0≤n∧n≤29):n=0∨n=1∨n=2∨n=3∨n=4∨n=5∨n=6∨n=7∨n=8∨n=9∨n=10∨n=11∨n=12∨n=13∨n=14∨n=15∨n=16∨n=17∨n=18∨n=19∨n=20∨n=21∨n=22∨n=23∨n=24∨n=25∨n=26∨n=27∨n=28∨n=29:=by omega
def Q1 (n:Int):Int:=if 0≤n∧n≤29 then ([1,2,3,3,2,2,2,2,2,2,1,1,1,1,3,3,3,3,3,3,3,1,1,1,1,1,1,1,1,3]:List Int).getD n.toNat 1 else 1
def Qm (n:Int):Int:=if 0≤n∧n≤29 then ([2,2,4,4,2,2,2,2,2,2,2,2,2,2,4,5,3,3,3,3,6,6,3,4,6,2,2,2,2,4]:List Int).getD n.toNat 2 else 2
def ZG (n:Int):Int:=if n=2∨n=14∨n=29 then 1 else if n=3∨n=15 then 2 else 0
theorem Zet (y:PTup i313):r313 y=some ((Q1 y.1,()),()):=by
 obtain ⟨(n:Int),_⟩:=y
 show r313 (n,())=some ((Q1 n,()),())
 by_cases h:0≤n∧n≤29
 ·rcases XX h with rfl|rfl|rfl|rfl|rfl|rfl|rfl|rfl|rfl|rfl|rfl|rfl|rfl|rfl|rfl|rfl|rfl|rfl|rfl|rfl|rfl|rfl|rfl|rfl|rfl|rfl|rfl|rfl|rfl|rfl<;>rfl
 ·have e: ∀c:Int,0≤c→c≤29→eqI n c=false:=fun c h0 h1=>Zd (by omega)
  have e2: ∀a b:Int,0≤a→b≤29→inR a b n=false:=fun a b h0 h1=>by
   cases hh:inR a b n with
   |false=>rfl
   |true=>have:=JS.1 hh;omega
  unfold r313 m313 Q1
  rw[if_neg h]
  simp[e,e2,XB]
theorem Zb7 (y:PTup i226):r226 y=some ((Q1 y.1,()),()):=by
 obtain ⟨(n:Int),_⟩:=y
 show r226 (n,())=some ((Q1 n,()),())
 by_cases h:0≤n∧n≤29
 ·rcases XX h with rfl|rfl|rfl|rfl|rfl|rfl|rfl|rfl|rfl|rfl|rfl|rfl|rfl|rfl|rfl|rfl|rfl|rfl|rfl|rfl|rfl|rfl|rfl|rfl|rfl|rfl|rfl|rfl|rfl|rfl<;>rfl
 ·have e2:inR 0 29 n=false:=by
   cases hh:inR 0 29 n with
   |false=>rfl
   |true=>exact absurd (JS.1 hh) h
  unfold r226 m226 Q1
  rw[if_neg h]
  simp only[JT,Option.bind_some,e2,Bool.not_false,cond_true]
theorem Zaa (y:PTup i258):r258 y=some ((Qm y.1,()),()):=by
 obtain ⟨(n:Int),_⟩:=y
 show r258 (n,())=some ((Qm n,()),())
 by_cases h:0≤n∧n≤29
 ·rcases XX h with rfl|rfl|rfl|rfl|rfl|rfl|rfl|rfl|rfl|rfl|rfl|rfl|rfl|rfl|rfl|rfl|rfl|rfl|rfl|rfl|rfl|rfl|rfl|rfl|rfl|rfl|rfl|rfl|rfl|rfl<;>rfl
 ·have e: ∀c:Int,0≤c→c≤29→eqI n c=false:=fun c h0 h1=>Zd (by omega)
  unfold r258 m258 Qm
  rw[if_neg h]
  simp[e]
theorem Zac (y:PTup i175):r175 y=some ((Qm y.1,()),()):=by
 obtain ⟨(n:Int),_⟩:=y
 show r175 (n,())=some ((Qm n,()),())
 by_cases h:0≤n∧n≤29
 ·rcases XX h with rfl|rfl|rfl|rfl|rfl|rfl|rfl|rfl|rfl|rfl|rfl|rfl|rfl|rfl|rfl|rfl|rfl|rfl|rfl|rfl|rfl|rfl|rfl|rfl|rfl|rfl|rfl|rfl|rfl|rfl<;>rfl
 ·have e2:inR 0 29 n=false:=by
   cases hh:inR 0 29 n with
   |false=>rfl
   |true=>exact absurd (JS.1 hh) h
  unfold r175 m175 Qm
  rw[if_neg h]
  simp only[JT,Option.bind_some,e2,Bool.not_false,cond_true]
theorem Zfy (y:PTup i314):r314 y=some ((ZG y.1,()),()):=by
 obtain ⟨(n:Int),_⟩:=y
 show r314 (n,())=some ((ZG n,()),())
 by_cases h:0≤n∧n≤29
 ·rcases XX h with rfl|rfl|rfl|rfl|rfl|rfl|rfl|rfl|rfl|rfl|rfl|rfl|rfl|rfl|rfl|rfl|rfl|rfl|rfl|rfl|rfl|rfl|rfl|rfl|rfl|rfl|rfl|rfl|rfl|rfl<;>rfl
 ·have e: ∀c:Int,0≤c→c≤29→eqI n c=false:=fun c h0 h1=>Zd (by omega)
  unfold r314 m314 ZG
  rw[if_neg (by omega),if_neg (by omega)]
  simp[e]
theorem Zgg (y:PTup i228):r228 y=some ((ZG y.1,()),()):=by
 obtain ⟨(n:Int),_⟩:=y
 show r228 (n,())=some ((ZG n,()),())
 by_cases h:0≤n∧n≤29
 ·rcases XX h with rfl|rfl|rfl|rfl|rfl|rfl|rfl|rfl|rfl|rfl|rfl|rfl|rfl|rfl|rfl|rfl|rfl|rfl|rfl|rfl|rfl|rfl|rfl|rfl|rfl|rfl|rfl|rfl|rfl|rfl<;>rfl
 ·have e: ∀c:Int,0≤c→c≤29→eqI n c=false:=fun c h0 h1=>Zd (by omega)
  unfold r228 m228 ZG
  rw[if_neg (by omega),if_neg (by omega)]
  simp[e]
structure Zv where
 ram:List Int
 bank:Int
structure Zk where
 a:Int
 x:Int
 s:Int
 pc:Int
 z:Bool
 n:Bool
 c:Bool
 i:Bool
structure ZJ where
 T:Int
 ctrl:Int
 scroll:Int
 addr:Int
 pal:Int
 blank:Bool
 table:List Int
 dots:List Int
structure Qj where
 T:Int
 period:Int
 count:Int
 bit:Int
 len:Int
 asks:Bool
 irq:Bool
structure Yx where
 held:Bool
 shift:Int
def Zv.t (x:Zv):Tup XT:=(x.ram,(x.bank,()))
def Zk.t (c:Zk):Tup Yr:=(c.a,(c.x,(c.s,(c.pc,(c.z,(c.n,(c.c,(c.i,()))))))))
def ZJ.t (p:ZJ):Tup J9:=(p.T,(p.ctrl,(p.scroll,(p.addr,(p.pal,(p.blank,(p.table,(p.dots,()))))))))
def Qj.t (a:Qj):Tup KV:=(a.T,(a.period,(a.count,(a.bit,(a.len,(a.asks,(a.irq,())))))))
def Yx.t (x:Yx):Tup UE:=(x.held,(x.shift,()))
def ZsU (x:Tup XT):Zv:=⟨x.1,x.2.1⟩
def Zr6 (c:Tup Yr):Zk:=⟨c.1,c.2.1,c.2.2.1,c.2.2.2.1,c.2.2.2.2.1,c.2.2.2.2.2.1,c.2.2.2.2.2.2.1,c.2.2.2.2.2.2.2.1⟩
def ZsW (p:Tup J9):ZJ:=⟨p.1,p.2.1,p.2.2.1,p.2.2.2.1,p.2.2.2.2.1,p.2.2.2.2.2.1,p.2.2.2.2.2.2.1,p.2.2.2.2.2.2.2.1⟩
def ZsM (a:Tup KV):Qj:=⟨a.1,a.2.1,a.2.2.1,a.2.2.2.1,a.2.2.2.2.1,a.2.2.2.2.2.1,a.2.2.2.2.2.2.1⟩
def ZsV (x:Tup UE):Yx:=⟨x.1,x.2.1⟩
def QM (l:List Int):Prop:= ∀n,n∈l→0≤n∧n≤255
structure YE (f:List (List Int)):Prop where
 banks: ∀b,b∈f→b.length=256∧QM b
 lo:1≤f.length
 hi:f.length≤8
structure JJ (x:Zv):Prop where
 len:x.ram.length=512
 bytes:QM x.ram
structure JD (f:List (List Int)) (x:Zv):Prop where
 img:YE f
 ram:JJ x
 b0:0≤x.bank
 b1:x.bank< (f.length:Int)
structure ZE (c:Zk):Prop where
 a:0≤c.a∧c.a≤255
 x:0≤c.x∧c.x≤255
 s:0≤c.s∧c.s≤255
 pc:0≤c.pc∧c.pc≤65535
theorem Zc3 {lo hi:Int} {l:List Int}:YG lo hi l=true↔ ∀n,n∈l→lo≤n∧n≤hi:=by
 unfold YG
 rw[List.all_eq_true]
 exact ⟨fun h n hn=>JS.1 (h n hn),fun h n hn=>JS.2 (h n hn)⟩
theorem Xk {a b:Int}:eqI a b=true↔a=b:=by rw[Qk];simp
theorem WT {a b:Int}:leI a b=true↔a≤b:=by simp[leI]
theorem Zkc {f:List (List Int)}:WN f=true↔YE f:=by
 unfold WN
 rw[Bool.and_eq_true,List.all_eq_true,JS]
 constructor
 ·rintro ⟨h,h1,h2⟩
  refine ⟨fun b hb=> ?_,by omega,by omega⟩
  have:=h b hb
  unfold KW at this
  rw[Bool.and_eq_true,Xk,Zc3]at this
  exact ⟨by omega,this.2⟩
 ·rintro ⟨h,h1,h2⟩
  refine ⟨fun b hb=> ?_,by omega,by omega⟩
  unfold KW
  rw[Bool.and_eq_true,Xk,Zc3]
  exact ⟨by have:=(h b hb).1;omega,(h b hb).2⟩
theorem Za8 {f:List (List Int)} {x:Zv}:Xn f x.t=true↔JD f x:=by
 unfold Xn Zv.t
 simp only[Bool.and_eq_true,Zkc,Xk,Zc3,JS]
 constructor
 ·rintro ⟨h,h1,h2,h3,h4⟩
  exact ⟨h,⟨by omega,h2⟩,h3,by omega⟩
 ·rintro ⟨h,⟨h1,h2⟩,h3,h4⟩
  exact ⟨h,by omega,h2,h3,by omega⟩
theorem Zda {c:Zk}:Yj c.t=true↔ZE c:=by
 unfold Yj Zk.t
 simp only[Bool.and_eq_true,JS]
 constructor
 ·rintro ⟨h,h1,h2,h3⟩;exact ⟨h,h1,h2,h3⟩
 ·rintro ⟨h,h1,h2,h3⟩;exact ⟨h,h1,h2,h3⟩
theorem YE.small {f:List (List Int)} (h:YE f):small f:=by
 have key: ∀g:List (List Int),(∀b,b∈g→b.length=256)→UY g=256*g.length:=by
  intro g
  induction g with
  |nil=>intro _;rfl
  |cons b g ih=>
   intro hb
   simp only[UY,List.length_cons]
   rw[ih (fun b hg=>hb b (List.mem_cons_of_mem _ hg)),hb b List.mem_cons_self]
   omega
 have hi:=h.hi
 refine ⟨by omega,fun l hl=> ?_,?_⟩
 ·have:=(h.banks l hl).1;omega
 ·rw[key f fun b hb=>(h.banks b hb).1];omega
def YD (c:Zk) (v:Int):Zk:={c with a:=v%256,z:=eqI (v%256) 0,n:=ltI 127 (v%256)}
def VJ (c:Zk) (v:Int):Zk:={c with x:=v%256,z:=eqI (v%256) 0,n:=ltI 127 (v%256)}
def wfT (c:Zk) (f:Int):Zk:={c with z:=neI (ZD .i64 f 2) 0,n:=neI (ZD .i64 f 128) 0,c:=neI (ZD .i64 f 1) 0,i:=neI (ZD .i64 f 4) 0}
def Up (c:Zk):Int:=QR c.c+2*QR c.z+4*QR c.i+128*QR c.n
theorem K2 (c:Zk) (v:Int):r355 (c.t,(v,()))=some (((YD c v).t,()),()):=by
 unfold r355 m355
 simp only[Y7,ZbW,Option.bind_some]
 rfl
theorem VO (c:Zk) (v:Int):r304 (c.t,(v,()))=some (((YD c v).t,()),()):=by
 unfold r304 m304
 simp only[Ja,Zcb,Option.bind_some]
 rfl
theorem ZcR (c:Zk) (v:Int):r359 (c.t,(v,()))=some (((VJ c v).t,()),()):=by
 unfold r359 m359
 simp only[Y7,ZbW,Option.bind_some]
 rfl
theorem ZcX (c:Zk) (v:Int):r348 (c.t,(v,()))=some (((VJ c v).t,()),()):=by
 unfold r348 m348
 simp only[Ja,Zcb,Option.bind_some]
 rfl
theorem Zir {c:Zk} {v:Int} (h:ZE c):ZE (YD c v):=⟨mod256 v,h.x,h.s,h.pc⟩
theorem Zq5 {c:Zk} {v:Int} (h:ZE c):ZE (VJ c v):=⟨h.a,mod256 v,h.s,h.pc⟩
theorem ZeI (c:Zk) (f:Int):r362 (c.t,(f,()))=some (((wfT c f).t,()),()):=rfl
theorem ZbL (c:Zk) (f:Int):r279 (c.t,(f,()))=some (((wfT c f).t,()),()):=rfl
theorem Zrm {c:Zk} {f:Int} (h:ZE c):ZE (wfT c f):=⟨h.a,h.x,h.s,h.pc⟩
theorem Zi2 (c:Zk):r319 (c.t,())=some ((Up c,()),()):=by
 unfold r319 m319 Up
 simp only[Zfn,Option.bind_some,Zk.t]
 obtain ⟨a,x,s,pc,z,n,c,i⟩:=c
 simp only
 cases z<;>cases n<;>cases c<;>cases i<;>rfl
theorem ZjJ (c:Zk):r294 (c.t,())=some ((Up c,()),()):=by
 unfold r294 m294 Up
 simp only[Zdj,Option.bind_some,Zk.t]
 obtain ⟨a,x,s,pc,z,n,c,i⟩:=c
 simp only
 cases z<;>cases n<;>cases c<;>cases i<;>rfl
def rgT (a:Int):Int×Int:=
 let b:=a%65536
 if b<8192 then (1,b%512)else if b<16384 then (2,b%8)else if b<16388 then (3,b%4)else if b=16406 then (4,0)else if b<32768 then (7,0)else if b<49152 then (5,b%256)else (6,b%256)
theorem Qt {a b:Int} (h:0≤a):Int.tmod a b=a%b:=Int.tmod_eq_emod_of_nonneg h
theorem Zi3 (a:Int):r257 (a,())=some (((rgT a).1,((rgT a).2,())),()):=by
 unfold r257 m257 rgT
 simp only[ZaG,Option.bind_some]
 have h0:0≤a%65536:=by omega
 generalize a%65536=b at*
 rw[Qt h0,Qt h0,Qt h0,Qt h0]
 by_cases h1:b<8192
 ·rw[Zf h1,if_pos h1];rfl
 rw[Zp h1,if_neg h1,cond_false]
 by_cases h1:b<16384
 ·rw[Zf h1,if_pos h1];rfl
 rw[Zp h1,if_neg h1,cond_false]
 by_cases h1:b<16388
 ·rw[Zf h1,if_pos h1];rfl
 rw[Zp h1,if_neg h1,cond_false]
 by_cases h1:b=16406
 ·rw[Zi h1,if_pos h1];rfl
 rw[Zd h1,if_neg h1,cond_false]
 by_cases h1:b<32768
 ·rw[Zf h1,if_pos h1];rfl
 rw[Zp h1,if_neg h1,cond_false]
 by_cases h1:b<49152
 ·rw[Zf h1,if_pos h1];rfl
 rw[Zp h1,if_neg h1,cond_false]
theorem WO (y:PTup i257):r257 y=some (((rgT y.1).1,((rgT y.1).2,())),()):=Zi3 y.1
theorem ZjL (a:Int):r173 (a,())=some (((rgT a).1,((rgT a).2,())),()):=by
 unfold r173 m173 rgT
 simp only[VN,Option.bind_some]
 have h0:0≤a%65536:=by omega
 generalize a%65536=b at*
 rw[Qt h0,Qt h0,Qt h0,Qt h0]
 by_cases h1:b<8192
 ·rw[Zf h1,if_pos h1];rfl
 rw[Zp h1,if_neg h1,cond_false]
 by_cases h1:b<16384
 ·rw[Zf h1,if_pos h1];rfl
 rw[Zp h1,if_neg h1,cond_false]
 by_cases h1:b<16388
 ·rw[Zf h1,if_pos h1];rfl
 rw[Zp h1,if_neg h1,cond_false]
 by_cases h1:b=16406
 ·rw[Zi h1,if_pos h1];rfl
 rw[Zd h1,if_neg h1,cond_false]
 by_cases h1:b<32768
 ·rw[Zf h1,if_pos h1];rfl
 rw[Zp h1,if_neg h1,cond_false]
 by_cases h1:b<49152
 ·rw[Zf h1,if_pos h1];rfl
 rw[Zp h1,if_neg h1,cond_false]
theorem Wt (y:PTup i173):r173 y=some (((rgT y.1).1,((rgT y.1).2,())),()):=ZjL y.1
theorem UL (a:Int):((rgT a).1=1∧0≤(rgT a).2∧(rgT a).2<512)∨((rgT a).1=2∧0≤(rgT a).2∧(rgT a).2<8)∨((rgT a).1=3∧0≤(rgT a).2∧(rgT a).2<4)∨((rgT a).1=4∧(rgT a).2=0)∨((rgT a).1=5∧0≤(rgT a).2∧(rgT a).2<256)∨((rgT a).1=6∧0≤(rgT a).2∧(rgT a).2<256)∨((rgT a).1=7∧(rgT a).2=0):=by
 unfold rgT
 simp only
 split
 ·left;exact ⟨rfl,by show 0≤a%65536%512;omega,by show a%65536%512<512;omega⟩
 right
 split
 ·left;exact ⟨rfl,by show 0≤a%65536%8;omega,by show a%65536%8<8;omega⟩
 right
 split
 ·left;exact ⟨rfl,by show 0≤a%65536%4;omega,by show a%65536%4<4;omega⟩
 right
 split
 ·left;exact ⟨rfl,rfl⟩
 right
 split
 ·right;right;exact ⟨rfl,rfl⟩
 split
 ·left;exact ⟨rfl,by show 0≤a%65536%256;omega,by show a%65536%256<256;omega⟩
 ·right;left;exact ⟨rfl,by show 0≤a%65536%256;omega,by show a%65536%256<256;omega⟩
def ZI (f:List (List Int)) (x:Zv) (a:Int):Int:=
 if (rgT a).1=1 then rdE .i x.ram (rgT a).2 else if (rgT a).1=5 then rdI (rdE .n f x.bank) (rgT a).2 else if (rgT a).1=6 then rdI (rdE .n f ((f.length:Int)-1)) (rgT a).2 else 0
theorem Xc {e:E} {l:List e.C} {i:Int} (h0:0≤i) (h1:i< (l.length:Int)):rdE e l i∈l:=by
 have:i.toNat<l.length:=by omega
 rw[show rdE e l i=l[i.toNat] by simp[rdE,List.getD,this]]
 exact List.getElem_mem _
theorem Zn7 {l:List Int} {i:Int} (h0:0≤i) (h1:i< (l.length:Int)):rdI l i∈l:=Xc (e:= .i) h0 h1
theorem Zd8 {f:List (List Int)} {x:Zv} (h:JD f x) (a:Int):0≤ZI f x a∧ZI f x a≤255:=by
 have hf:=h.img.lo
 have hb0:=h.b0
 have hb1:=h.b1
 have hl:=h.ram.len
 unfold ZI
 have z:(0:Int)≤0∧(0:Int)≤255:=by decide
 rcases UL a with ⟨e,h0,h1⟩| ⟨e,h0,h1⟩| ⟨e,h0,h1⟩| ⟨e,h0⟩| ⟨e,h0,h1⟩| ⟨e,h0,h1⟩| ⟨e,h0⟩<;>rw[e]
 ·exact h.ram.bytes _ (Xc (e:= .i) h0 (by omega))
 ·exact z
 ·exact z
 ·exact z
 ·have hm:=h.img.banks _ (Xc (e:= .n) hb0 hb1)
  exact hm.2 _ (Zn7 h0 (by have:=hm.1;omega))
 ·have hm:=h.img.banks _ (Xc (e:= .n) (l:=f) (i:=(f.length:Int)-1) (by omega) (by omega))
  exact hm.2 _ (Zn7 h0 (by have:=hm.1;omega))
 ·exact z
theorem V9 (f:List (List Int)) (x:Zv) (a:Int) (h:JD f x):r262 ((f,()),(x.t,(a,())))=some ((ZI f x a,()),()):=by
 have hf:=h.img.lo
 have hg:=h.img.hi
 have hb0:=h.b0
 have hb1:=h.b1
 have hl:=h.ram.len
 unfold r262 m262 ZI
 simp only[WO,Option.bind_some,Zl,Zv.t]
 rw[Zj (x:=(f.length:Int)-1) (by omega) (by omega)]
 rcases UL a with ⟨e,h0,h1⟩| ⟨e,h0,h1⟩| ⟨e,h0,h1⟩| ⟨e,h0⟩| ⟨e,h0,h1⟩| ⟨e,h0,h1⟩| ⟨e,h0⟩<;>rw[e]
 ·rw[Zo h0,Zf (by omega)];rfl
 ·rfl
 ·rfl
 ·rfl
 ·have hm:=(h.img.banks _ (Xc (e:= .n) hb0 hb1)).1
  rw[Zo hb0,Zf hb1,Zo h0,Zf (show (rgT a).2< ((rdE .n f x.bank:List Int).length:Int) by omega)];rfl
 ·have hm:=(h.img.banks _ (Xc (e:= .n) (l:=f) (i:=(f.length:Int)-1) (by omega) (by omega))).1
  rw[Zo (show 0≤(f.length:Int)-1 by omega),Zf (show (f.length:Int)-1< (f.length:Int) by omega),Zo h0,Zf (show (rgT a).2< ((rdE .n f ((f.length:Int)-1):List Int).length:Int) by omega)];rfl
 ·rfl
theorem Zb9 (f:List (List Int)) (x:Zv) (a:Int) (h:JD f x):r288 ((f,()),(x.t,(a,())))=some ((ZI f x a,()),()):=by
 have hf:=h.img.lo
 have hg:=h.img.hi
 have hb0:=h.b0
 have hb1:=h.b1
 have hl:=h.ram.len
 unfold r288 m288 ZI
 simp only[Wt,Option.bind_some,Zl,Zv.t]
 rw[Zj (x:=(f.length:Int)-1) (by omega) (by omega)]
 rcases UL a with ⟨e,h0,h1⟩| ⟨e,h0,h1⟩| ⟨e,h0,h1⟩| ⟨e,h0⟩| ⟨e,h0,h1⟩| ⟨e,h0,h1⟩| ⟨e,h0⟩<;>rw[e]
 ·rw[Zo h0,Zf (by omega)];rfl
 ·rfl
 ·rfl
 ·rfl
 ·have hm:=(h.img.banks _ (Xc (e:= .n) hb0 hb1)).1
  rw[Zo hb0,Zf hb1,Zo h0,Zf (show (rgT a).2< ((rdE .n f x.bank:List Int).length:Int) by omega)];rfl
 ·have hm:=(h.img.banks _ (Xc (e:= .n) (l:=f) (i:=(f.length:Int)-1) (by omega) (by omega))).1
  rw[Zo (show 0≤(f.length:Int)-1 by omega),Zf (show (f.length:Int)-1< (f.length:Int) by omega),Zo h0,Zf (show (rgT a).2< ((rdE .n f ((f.length:Int)-1):List Int).length:Int) by omega)];rfl
 ·rfl
theorem Zkd (f:List (List Int)) (x:Zv) (h:JD f x):r80 ((f,()),(x.t,()))=some ((true,()),()):=by
 have:=ZbU f x.t h.img.small (by show x.ram.length≤_;have:=h.ram.len;omega)
 rw[Za8.2 h]at this
 exact this
theorem Zgf (f:List (List Int)) (x:Zv) (h:JD f x):r70 ((f,()),(x.t,()))=some ((true,()),()):=by
 have:=Zb6 f x.t h.img.small (by show x.ram.length≤_;have:=h.ram.len;omega)
 rw[Za8.2 h]at this
 exact this
theorem Zfz (f:List (List Int)) (x:Zv) (a:Int) (h:JD f x):r371 ((f,()),(x.t,(a,())))=some ((ZI f x a,()),()):=by
 unfold r371 m371
 exact Za (Zkd f x h) (Za (V9 f x a h) rfl)
theorem Zao (f:List (List Int)) (x:Zv) (a:Int) (h:JD f x):r225 ((f,()),(x.t,(a,())))=some ((ZI f x a,()),()):=by
 unfold r225 m225
 exact Za (Zgf f x h) (Za (Zb9 f x a h) rfl)
def KF (f:List (List Int)) (x:Zv) (a v:Int):Zv:=
 if (rgT a).1=1 then {x with ram:=x.ram.set (rgT a).2.toNat (v%256)}else if (rgT a).1=5∨(rgT a).1=6 then {x with bank:=(v%256)% (f.length:Int)}else x
theorem QM.set {l:List Int} (h:QM l) (i:Nat) {v:Int} (hv:0≤v∧v≤255):QM (l.set i v):=fun n hn=>by
 rcases List.mem_or_eq_of_mem_set hn with h1|h1
 ·exact h n h1
 ·rw[h1];exact hv
theorem Zn2 {f:List (List Int)} {x:Zv} (h:JD f x) (a v:Int):JD f (KF f x a v):=by
 have hf:=h.img.lo
 unfold KF
 split
 ·exact ⟨h.img,⟨by simp[h.ram.len],h.ram.bytes.set _ (mod256 v)⟩,h.b0,h.b1⟩
 split
 ·exact ⟨h.img,⟨h.ram.len,h.ram.bytes⟩,Int.emod_nonneg _ (by omega),Int.emod_lt_of_pos _ (by omega)⟩
 ·exact h
theorem ZfA (f:List (List Int)) (x:Zv) (a v:Int) (h:JD f x):r324 (x.t,((f,()),(a,(v,()))))=some ((),((KF f x a v).t,())):=by
 have hf:=h.img.lo
 have hl:=h.ram.len
 unfold r324 m324 KF
 simp only[WO,Y7,Option.bind_some,Zl,Zv.t]
 have hv:=mod256 v
 rw[Qt hv.1,Jy (show (f.length:Int)≠0 by omega)]
 rcases UL a with ⟨e,h0,h1⟩| ⟨e,h0,h1⟩| ⟨e,h0,h1⟩| ⟨e,h0⟩| ⟨e,h0,h1⟩| ⟨e,h0,h1⟩| ⟨e,h0⟩<;>rw[e]
 ·rw[Zo h0,Zf (by omega)];rfl
 all_goals rfl
theorem Zdm (x:Zv) (h:x.ram.length=512):r93 (x.t,())=some ((x.t,()),()):=Zdl x.t (by show x.ram.length≤_;omega)
theorem Zgi (f:List (List Int)) (x:Zv) (a v:Int) (h:JD f x):r300 ((f,()),(x.t,(a,(v,()))))=some (((KF f x a v).t,()),()):=by
 have hf:=h.img.lo
 have hl:=h.ram.len
 unfold r300 m300 KF
 refine Za (Zdm x hl) (Za (Zgf f x h) ?_)
 simp only[Wt,Ja,Option.bind_some,Zl,Bool.not_true,cond_false,Zv.t]
 have hv:=mod256 v
 rw[Qt hv.1,Jy (show (f.length:Int)≠0 by omega)]
 rcases UL a with ⟨e,h0,h1⟩| ⟨e,h0,h1⟩| ⟨e,h0,h1⟩| ⟨e,h0⟩| ⟨e,h0,h1⟩| ⟨e,h0,h1⟩| ⟨e,h0⟩<;>rw[e]
 ·rw[Zo h0,Zf (by omega)];rfl
 all_goals rfl
def Kb (x:Zv) (c:Zk) (v:Int):Zv:={x with ram:=x.ram.set (256+c.s%256).toNat (v%256)}
def Ka (c:Zk):Zk:={c with s:=(c.s-1)%256}
def Yp (c:Zk):Zk:={c with s:=(c.s+1)%256}
def Yb (x:Zv) (c:Zk):Int:=rdE .i x.ram (256+(c.s+1)%256)
theorem UH {x:Zv} (h:JJ x) (c:Zk) (v:Int):JJ (Kb x c v):=⟨by simp[Kb,h.len],h.bytes.set _ (mod256 v)⟩
theorem UG {c:Zk} (h:ZE c):ZE (Ka c):=⟨h.a,h.x,mod256 _,h.pc⟩
theorem W0 {c:Zk} (h:ZE c):ZE (Yp c):=⟨h.a,h.x,mod256 _,h.pc⟩
theorem Zmt {x:Zv} (h:JJ x) (c:Zk):0≤Yb x c∧Yb x c≤255:=by
 have:=mod256 (c.s+1)
 have hl:=h.len
 exact h.bytes _ (Xc (e:= .i) (by omega) (by omega))
theorem Zbl (x:Zv) (c:Zk) (v:Int) (h:JJ x) (hc:ZE c):r318 (x.t,(c.t,(v,())))=some ((),((Kb x c v).t,((Ka c).t,()))):=by
 have hl:=h.len
 have hs:=hc.s
 unfold r318 m318 Kb Ka
 simp only[Y7,Option.bind_some,Zl,Zv.t,Zk.t]
 have h1:=mod256 c.s
 rw[JU (by omega),Zj (x:=256+c.s%256) (by omega) (by omega),Zo (by omega),Zf (by omega),Zj (x:=c.s-1) (by omega) (by omega)]
 rfl
theorem Zap (x:Zv) (c:Zk) (v:Int) (h:JJ x) (hc:ZE c):r295 (x.t,(c.t,(v,())))=some (((Kb x c v).t,((Ka c).t,())),()):=by
 have hl:=h.len
 have hs:=hc.s
 unfold r295 m295 Kb Ka
 refine Za (Zdm x hl) ?_
 simp only[Ja,Option.bind_some,Zl,Zv.t,Zk.t]
 have h1:=mod256 c.s
 rw[JU (by omega),Zj (x:=256+c.s%256) (by omega) (by omega),Zo (by omega),Zf (by omega),Zj (x:=c.s-1) (by omega) (by omega)]
 rfl
theorem Zbk (x:Zv) (c:Zk) (h:JJ x) (hc:ZE c):r361 (x.t,(c.t,()))=some ((Yb x c,()),(x.t,((Yp c).t,()))):=by
 have hl:=h.len
 have hs:=hc.s
 unfold r361 m361 Yb Yp
 simp only[Y7,Option.bind_some,Zl,Zv.t,Zk.t]
 rw[Zj (x:=c.s+1) (by omega) (by omega)]
 have h1:=mod256 (c.s+1)
 rw[JU (by omega),Zj (x:=256+(c.s+1)%256) (by omega) (by omega),Zo (by omega),Zf (by omega)]
 rfl
theorem ZbB (x:Zv) (c:Zk) (h:JJ x) (hc:ZE c):r303 (x.t,(c.t,()))=some (((Yp c).t,(Yb x c,())),()):=by
 have hl:=h.len
 have hs:=hc.s
 have hb:=Zmt h c
 unfold Yb at hb
 unfold r303 m303 Yb Yp
 simp only[Ja,Option.bind_some,Zl,Zv.t,Zk.t]
 rw[Zj (x:=c.s+1) (by omega) (by omega)]
 have h1:=mod256 (c.s+1)
 rw[JU (by omega),Zj (x:=256+(c.s+1)%256) (by omega) (by omega),Zo (by omega),Zf (by omega)]
 rw[show (rdE .i x.ram (256+(c.s+1)%256):Int)%256=rdE .i x.ram (256+(c.s+1)%256)from Int.emod_eq_of_lt hb.1 (Int.lt_of_le_of_lt hb.2 (by decide))]
 rfl

end Go.Proofs.YtleidaafbhojfaaGreatDoor.Plain
