/- Plain laws of the printed functions: Cp, Obs, Lock, Ok, Ok2, Ok3, Copies, Bytes, Cpu. No condition beyond those that each lemma states. -/
import Derived.Test.YtgpifihakjdfeaaGreatW5
import Derived.Test.YtgpifihakjdfeaaGreatFn1
set_option linter.unusedVariables false
set_option linter.unusedSimpArgs false
namespace Go.Proofs.YtgpifihakjdfeaaGreat.Plain
open Go Go.Tev
def bulk:List (List Int)→Nat| []=>0|l::f=>l.length+bulk f
def small (f:List (List Int)):Prop:=f.length≤4398046511104∧(∀l,l∈f→l.length≤4398046511104)∧bulk f≤4398046511104
def left (n:Int) (k:Nat):Int:=if n< (k:Int)then-1 else n-(k:Int)
theorem equal_loop (a b:List Int) (h1:a.length≤4398046511104) (hab:a.length=b.length): ∀(k i:Nat),i≤a.length→a.length-i<k→
  n77_0 k (a,(b,((a.length:Int),()))) () ((i:Int),())=if a.drop i=b.drop i then some (Sum.inl ((a.length:Int),()),())else some (Sum.inr (false,()),())
 |0,_,_,h=>absurd h (by omega)
 |k+1,i,hi,hk=>by
  unfold n77_0 w77_0
  simp only[lenI_def]
  by_cases h:i<a.length
  ·have hb:i<b.length:=by omega
   rw[ltI_t (by omega),leI_t (by omega),ltI_t (by omega),rdE_nat .i a i h,rdE_nat .i b i hb,wI_succ (by omega)]
   simp only[cond_true]
   rw[drop_cons' h,drop_cons' hb]
   by_cases hx:a[i]=b[i]
   ·rw[neI_f hx,cond_false,equal_loop a b h1 hab k (i+1) (by omega) (by omega)]
    simp only[List.cons.injEq,hx,true_and]
   ·rw[neI_t hx,cond_true]
    simp only[List.cons.injEq,hx,false_and,if_false]
  ·have:i=a.length:=by omega
   subst this
   rw[ltI_f (by omega)]
   simp[hab]
theorem equal_ok (a b:List Int) (h1:a.length≤4398046511104):r77 (a,(b,()))=some ((decide (a=b),()),()):=by
 unfold r77 m77 L77_0
 simp only[lenI_def]
 by_cases h:a.length=b.length
 ·have:=equal_loop a b h1 h fuel 0 (by omega) (by have:=fuel_big;omega)
  simp only[Int.natCast_zero,List.drop_zero]at this
  rw[neI_f (by omega),cond_false,this]
  by_cases e:a=b<;>simp[e,sumElim]
 ·rw[neI_t (by omega),cond_true]
  rw[show decide (a=b)=false from decide_eq_false (fun e=>h (by rw[e]))]
theorem equalF_loop (a b:List (List Int)) (h1:small a) (hab:a.length=b.length): ∀(k i:Nat),i≤a.length→a.length-i<k→
  n88_0 r89 k (b,((),(a,((a.length:Int),())))) () ((i:Int),())=if a.drop i=b.drop i then some (Sum.inl ((a.length:Int),()),())else some (Sum.inr (false,()),())
 |0,_,_,h=>absurd h (by omega)
 |k+1,i,hi,hk=>by
  unfold n88_0 w88_0
  simp only[lenI_def]
  have:=h1.1
  by_cases h:i<a.length
  ·have hb:i<b.length:=by omega
   rw[ltI_t (by omega),leI_t (by omega),ltI_t (by omega),rdE_nat .n a i h,rdE_nat .n b i hb,wI_succ (by omega)]
   rw[show r89 (a[i],(b[i],()))=some ((decide (a[i]=b[i]),()),()) by
    unfold r89 m89
    rw[equal_ok _ _ (h1.2.1 _ (List.getElem_mem h))]
    rfl]
   simp only[cond_true,Option.bind_some]
   rw[drop_cons' h,drop_cons' hb]
   by_cases hx:a[i]=b[i]
   ·rw[show (!decide (a[i]=b[i]))=false by simp[hx],cond_false,equalF_loop a b h1 hab k (i+1) (by omega) (by omega)]
    simp only[List.cons.injEq,hx,true_and]
   ·rw[show (!decide (a[i]=b[i]))=true by simpa using hx,cond_true]
    simp only[List.cons.injEq,hx,false_and,if_false]
  ·have:i=a.length:=by omega
   subst this
   rw[ltI_f (by omega)]
   simp[hab]
theorem equalF_ok (a b:List (List Int)) (h1:small a):r88 (a,(b,((),())))=some ((decide (a=b),()),()):=by
 unfold r88 m88 L88_0
 simp only[lenI_def]
 have:=h1.1
 by_cases h:a.length=b.length
 ·have:=equalF_loop a b h1 h fuel 0 (by omega) (by have:=fuel_big;omega)
  simp only[Int.natCast_zero,List.drop_zero]at this
  rw[neI_f (by omega),cond_false,this]
  by_cases e:a=b<;>simp[e,sumElim]
 ·rw[neI_t (by omega),cond_true]
  rw[show decide (a=b)=false from decide_eq_false (fun e=>h (by rw[e]))]
abbrev obsL:List LT:=[.sl false .n, .sl false .i, .sl false .i]
def obsOk (a:Tup obsL):Prop:=small a.1∧a.2.1.length≤4398046511104∧a.2.2.1.length≤4398046511104
def obsEq (a b:Tup obsL):Bool:=decide (a.1=b.1)&&(decide (a.2.1=b.2.1)&&decide (a.2.2.1=b.2.2.1))
theorem implSame_ok (a b:Tup obsL) (ha:obsOk a):r29 (a,(b,()))=some ((obsEq a b,()),()):=by
 unfold r29 m29
 obtain ⟨h1,h2,h3⟩:=ha
 rw[equalF_ok _ _ h1]
 simp only[Option.bind_some,obsEq]
 by_cases e1:a.1=b.1
 ·rw[decide_eq_true e1,cond_true,equal_ok _ _ h2]
  simp only[Option.bind_some]
  by_cases e2:a.2.1=b.2.1
  ·rw[decide_eq_true e2,cond_true,equal_ok _ _ h3]
   simp
  ·rw[decide_eq_false e2]
   simp
 ·rw[decide_eq_false e1]
  simp
theorem obsEq_self (a:Tup obsL):obsEq a a=true:=by simp[obsEq]
abbrev memL:List LT:=[.sl false .i, .int .i64]
abbrev cpuL:List LT:=[.int .i64, .int .i64, .int .i64, .int .i64, .bool, .bool, .bool, .bool]
abbrev ppuL:List LT:=[.int .i64, .int .i64, .int .i64, .int .i64, .int .i64, .bool, .sl false .i, .sl false .i]
abbrev apuL:List LT:=[.int .i64, .int .i64, .int .i64, .int .i64, .int .i64, .bool, .bool]
abbrev padL:List LT:=[.bool, .int .i64]
abbrev lockL:List LT:= .sl false .n:: .sl false .i::(memL++(cpuL++(ppuL++(apuL++(padL++(.bool:: .int .i64::obsL))))))
def ppuOkS (a:Tup ppuL):Prop:=a.2.2.2.2.2.2.1.length≤4398046511104∧a.2.2.2.2.2.2.2.1.length≤4398046511104
section
variable (a:Tup lockL)
abbrev lkMem:Tup memL:=(a.2.2.1,(a.2.2.2.1,()))
abbrev lkCpu:Tup cpuL:=(a.2.2.2.2.1,(a.2.2.2.2.2.1,(a.2.2.2.2.2.2.1,(a.2.2.2.2.2.2.2.1,(a.2.2.2.2.2.2.2.2.1,(a.2.2.2.2.2.2.2.2.2.1,(a.2.2.2.2.2.2.2.2.2.2.1,(a.2.2.2.2.2.2.2.2.2.2.2.1,()))))))))
abbrev lkPpu:Tup ppuL:=(a.2.2.2.2.2.2.2.2.2.2.2.2.1,(a.2.2.2.2.2.2.2.2.2.2.2.2.2.1,(a.2.2.2.2.2.2.2.2.2.2.2.2.2.2.1,(a.2.2.2.2.2.2.2.2.2.2.2.2.2.2.2.1,(a.2.2.2.2.2.2.2.2.2.2.2.2.2.2.2.2.1,(a.2.2.2.2.2.2.2.2.2.2.2.2.2.2.2.2.2.1,(a.2.2.2.2.2.2.2.2.2.2.2.2.2.2.2.2.2.2.1,(a.2.2.2.2.2.2.2.2.2.2.2.2.2.2.2.2.2.2.2.1,()))))))))
abbrev lkApu:Tup apuL:=(a.2.2.2.2.2.2.2.2.2.2.2.2.2.2.2.2.2.2.2.2.1,(a.2.2.2.2.2.2.2.2.2.2.2.2.2.2.2.2.2.2.2.2.2.1,(a.2.2.2.2.2.2.2.2.2.2.2.2.2.2.2.2.2.2.2.2.2.2.1,(a.2.2.2.2.2.2.2.2.2.2.2.2.2.2.2.2.2.2.2.2.2.2.2.1,(a.2.2.2.2.2.2.2.2.2.2.2.2.2.2.2.2.2.2.2.2.2.2.2.2.1,(a.2.2.2.2.2.2.2.2.2.2.2.2.2.2.2.2.2.2.2.2.2.2.2.2.2.1,(a.2.2.2.2.2.2.2.2.2.2.2.2.2.2.2.2.2.2.2.2.2.2.2.2.2.2.1,())))))))
abbrev lkPad:Tup padL:=(a.2.2.2.2.2.2.2.2.2.2.2.2.2.2.2.2.2.2.2.2.2.2.2.2.2.2.2.1,(a.2.2.2.2.2.2.2.2.2.2.2.2.2.2.2.2.2.2.2.2.2.2.2.2.2.2.2.2.1,()))
abbrev lkObs:Tup obsL:=a.2.2.2.2.2.2.2.2.2.2.2.2.2.2.2.2.2.2.2.2.2.2.2.2.2.2.2.2.2.2.2
end
def cpuEq (a b:Tup cpuL):Bool:=eqI a.1 b.1&&(eqI a.2.1 b.2.1&&(eqI a.2.2.1 b.2.2.1&&(eqI a.2.2.2.1 b.2.2.2.1&&((a.2.2.2.2.1==b.2.2.2.2.1)&&((a.2.2.2.2.2.1==b.2.2.2.2.2.1)&&((a.2.2.2.2.2.2.1==b.2.2.2.2.2.2.1)&&((a.2.2.2.2.2.2.2.1==b.2.2.2.2.2.2.2.1)&&true)))))))
def apuEq (a b:Tup apuL):Bool:=eqI a.1 b.1&&(eqI a.2.1 b.2.1&&(eqI a.2.2.1 b.2.2.1&&(eqI a.2.2.2.1 b.2.2.2.1&&(eqI a.2.2.2.2.1 b.2.2.2.2.1&&((a.2.2.2.2.2.1==b.2.2.2.2.2.1)&&((a.2.2.2.2.2.2.1==b.2.2.2.2.2.2.1)&&true))))))
def padEq (a b:Tup padL):Bool:=(a.1==b.1)&&(eqI a.2.1 b.2.1&&true)
def memEq (a b:Tup memL):Bool:=eqI a.2.1 b.2.1&&decide (a.1=b.1)
def ppuEq (a b:Tup ppuL):Bool:=eqI a.1 b.1&&(eqI a.2.1 b.2.1&&(eqI a.2.2.1 b.2.2.1&&(eqI a.2.2.2.1 b.2.2.2.1&&(eqI a.2.2.2.2.1 b.2.2.2.2.1&&((a.2.2.2.2.2.1==b.2.2.2.2.2.1)&&(decide (a.2.2.2.2.2.2.1=b.2.2.2.2.2.2.1)&&decide (a.2.2.2.2.2.2.2.1=b.2.2.2.2.2.2.2.1)))))))
def lockOkS (a:Tup lockL):Prop:=small a.1∧a.2.1.length≤4398046511104∧a.2.2.1.length≤4398046511104∧ppuOkS (lkPpu a)∧obsOk (lkObs a)
theorem memSame_ok (a b:Tup memL) (h:a.1.length≤4398046511104):r76 (a,(b,()))=some ((memEq a b,()),()):=by
 unfold r76 m76
 rw[equal_ok _ _ h]
 simp only[Option.bind_some,cond_and]
 rfl
theorem ppuSame_ok (a b:Tup ppuL) (h:ppuOkS a):r85 (a,(b,()))=some ((ppuEq a b,()),()):=by
 unfold r85 m85
 rw[equal_ok _ _ h.1]
 rw[show r77 (a.2.2.2.2.2.2.2.1,b.2.2.2.2.2.2.2)=some ((decide (a.2.2.2.2.2.2.2.1=b.2.2.2.2.2.2.2.1),()),())from equal_ok _ _ h.2]
 simp only[Option.bind_some,cond_and]
 rfl
def lockEq (a b:Tup lockL):Bool:=
 cpuEq (lkCpu a) (lkCpu b)&&(apuEq (lkApu a) (lkApu b)&&(padEq (lkPad a) (lkPad b)&&((a.2.2.2.2.2.2.2.2.2.2.2.2.2.2.2.2.2.2.2.2.2.2.2.2.2.2.2.2.2.1==b.2.2.2.2.2.2.2.2.2.2.2.2.2.2.2.2.2.2.2.2.2.2.2.2.2.2.2.2.2.1)&&
  (eqI a.2.2.2.2.2.2.2.2.2.2.2.2.2.2.2.2.2.2.2.2.2.2.2.2.2.2.2.2.2.2.1 b.2.2.2.2.2.2.2.2.2.2.2.2.2.2.2.2.2.2.2.2.2.2.2.2.2.2.2.2.2.2.1&&(memEq (lkMem a) (lkMem b)&&(ppuEq (lkPpu a) (lkPpu b)&&obsEq (lkObs a) (lkObs b)))))))
theorem implLockSame_ok (a b:Tup lockL) (h:lockOkS a):r26 (a,(b,()))=some ((lockEq a b,()),()):=by
 unfold r26 m26
 obtain ⟨_,_,h3,h4,h5⟩:=h
 simp only[memSame_ok (lkMem a) (lkMem b) h3,ppuSame_ok (lkPpu a) (lkPpu b) h4,implSame_ok (lkObs a) (lkObs b) h5,Option.bind_some,cond_and]
 rfl
def inR (lo hi n:Int):Bool:=leI lo n&&leI n hi
def allR (lo hi:Int) (l:List Int):Bool:=l.all (inR lo hi)
theorem inR_iff {lo hi n:Int}:inR lo hi n=true↔lo≤n∧n≤hi:=by simp[inR,leI]
theorem within_ok (y:PTup i71):r71 y=some ((inR y.2.1 y.2.2.1 y.1,()),()):=by
 unfold r71 m71
 simp only[cond_and]
 rfl
theorem l1In_ok (y:PTup i116):r116 y=some ((inR y.2.1 y.2.2.1 y.1,()),()):=by
 unfold r116 m116
 simp only[cond_and]
 rfl
theorem isByte_ok (y:PTup i69):r69 y=some ((inR 0 255 y.1,()),()):=by
 unfold r69 m69
 simp only[within_ok,Option.bind_some]
theorem l5Byte_ok (y:PTup i115):r115 y=some ((inR 0 255 y.1,()),()):=by
 unfold r115 m115
 simp only[l1In_ok,Option.bind_some]
theorem isTime_ok (y:PTup i70):r70 y=some ((inR 0 20000 y.1,()),()):=by
 unfold r70 m70
 simp only[within_ok,Option.bind_some]
theorem bytesOk_ok (l:List Int) (hl:l.length≤4611686018427387904):r143 (l,())=some ((allR 0 255 l,()),()):=by
 have key:=all_list_loop (fun k i=>n143_0 r69 k (l,((l.length:Int),())) () ((i:Int),())) l (inR 0 255) (Sum.inl ((l.length:Int),()),()) (Sum.inr (false,()),())
  (fun k i h hq=>by
   simp only[n143_0,w143_0,lenI_def]
   rw[ltI_t (by omega),leI_t (by omega),rdE_nat .i l i h,isByte_ok,wI_succ (by omega)]
   simp only[cond_true,Option.bind_some,hq,Bool.not_true,cond_false])
  (fun k i h hq=>by
   simp only[n143_0,w143_0,lenI_def]
   rw[ltI_t (by omega),leI_t (by omega),rdE_nat .i l i h,isByte_ok]
   simp only[cond_true,Option.bind_some,hq,Bool.not_false])
  (fun k=>by
   simp only[n143_0,w143_0,lenI_def]
   rw[ltI_f (by omega)];rfl) fuel 0 (by omega) (by have:=fuel_big;omega)
 unfold r143 m143 L143_0
 simp only[lenI_def]
 simp only[Int.natCast_zero,List.drop_zero]at key
 rw[key]
 unfold allR
 cases l.all (inR 0 255)<;>rfl
theorem colorsOk_ok (l:List Int) (hl:l.length≤4611686018427387904):r192 (l,())=some ((allR 0 63 l,()),()):=by
 have key:=all_list_loop (fun k i=>n192_0 r71 k (l,((l.length:Int),())) () ((i:Int),())) l (inR 0 63) (Sum.inl ((l.length:Int),()),()) (Sum.inr (false,()),())
  (fun k i h hq=>by
   simp only[n192_0,w192_0,lenI_def]
   rw[ltI_t (by omega),leI_t (by omega),rdE_nat .i l i h,within_ok,wI_succ (by omega)]
   simp only[cond_true,Option.bind_some,hq,Bool.not_true,cond_false])
  (fun k i h hq=>by
   simp only[n192_0,w192_0,lenI_def]
   rw[ltI_t (by omega),leI_t (by omega),rdE_nat .i l i h,within_ok]
   simp only[cond_true,Option.bind_some,hq,Bool.not_false])
  (fun k=>by
   simp only[n192_0,w192_0,lenI_def]
   rw[ltI_f (by omega)];rfl) fuel 0 (by omega) (by have:=fuel_big;omega)
 unfold r192 m192 L192_0
 simp only[lenI_def]
 simp only[Int.natCast_zero,List.drop_zero]at key
 rw[key]
 unfold allR
 cases l.all (inR 0 63)<;>rfl
def padsOk (l:List Int):Bool:=leI (l.length:Int) 20&&allR 0 255 l
theorem implPadsOk_ok (l:List Int) (hl:l.length≤4611686018427387904):r65 (l,())=some ((padsOk l,()),()):=by
 unfold r65 m65
 simp only[bytesOk_ok l hl,Option.bind_some,lenI_def,cond_and]
 rfl
theorem specPadsOk_ok (l:List Int) (hl:l.length≤4611686018427387904):r110 (l,())=some ((padsOk l,()),()):=by
 have key:=all_list_loop (fun k i=>n110_0 r115 k (l,()) () ((i:Int),())) l (inR 0 255) (Sum.inl ((l.length:Int),()),()) (Sum.inr (false,()),())
  (fun k i h hq=>by
   simp only[n110_0,w110_0,lenI_def]
   rw[ltI_t (by omega),leI_t (by omega),rdE_nat .i l i h,l5Byte_ok,wI_succ (by omega)]
   simp only[cond_true,Option.bind_some,hq,Bool.not_true,cond_false])
  (fun k i h hq=>by
   simp only[n110_0,w110_0,lenI_def]
   rw[ltI_t (by omega),leI_t (by omega),rdE_nat .i l i h,l5Byte_ok]
   simp only[cond_true,Option.bind_some,hq,Bool.not_false])
  (fun k=>by
   simp only[n110_0,w110_0,lenI_def]
   rw[ltI_f (by omega)];rfl) fuel 0 (by omega) (by have:=fuel_big;omega)
 unfold r110 m110 L110_0
 simp only[lenI_def]
 simp only[Int.natCast_zero,List.drop_zero]at key
 rw[key]
 unfold padsOk allR
 cases l.all (inR 0 255)<;>simp[sumElim]
def bankOk (l:List Int):Bool:=eqI (l.length:Int) 256&&allR 0 255 l
def imageOk (f:List (List Int)):Bool:=f.all bankOk&&inR 1 8 (f.length:Int)
theorem implImageOk_ok (f:List (List Int)) (hf:small f):r142 ((f,()),())=some ((imageOk f,()),()):=by
 have h0:=hf.1
 have key:=all_list_loop (fun k i=>n142_0 r143 r71 k (f,((f.length:Int),())) () ((i:Int),())) f bankOk (Sum.inl ((f.length:Int),()),()) (Sum.inr (false,()),())
  (fun k i h hq=>by
   have hl:=hf.2.1 _ (List.getElem_mem h)
   simp only[bankOk,Bool.and_eq_true]at hq
   simp only[n142_0,w142_0,lenI_def]
   rw[ltI_t (by omega),leI_t (by omega),rdE_nat .n f i h,bytesOk_ok _ (by omega),wI_succ (by omega)]
   have h1:(f[i].length:Int)=256:=by simpa [eqI_d] using hq.1
   rw[neI_f h1]
   simp only[cond_true,Option.bind_some,hq.2,Bool.not_true,cond_false])
  (fun k i h hq=>by
   have hl:=hf.2.1 _ (List.getElem_mem h)
   simp only[n142_0,w142_0,lenI_def]
   rw[ltI_t (by omega),leI_t (by omega),rdE_nat .n f i h,bytesOk_ok _ (by omega)]
   by_cases h1:(f[i].length:Int)=256
   ·rw[neI_f h1]
    simp only[bankOk,eqI_t h1,Bool.true_and]at hq
    simp only[cond_true,Option.bind_some,hq,Bool.not_false,cond_false]
   ·rw[neI_t h1]
    simp only[cond_true])
  (fun k=>by
   simp only[n142_0,w142_0,lenI_def]
   rw[ltI_f (by omega)];rfl) fuel 0 (by omega) (by have:=fuel_big;omega)
 unfold r142 m142 L142_0
 simp only[lenI_def]
 simp only[Int.natCast_zero,List.drop_zero]at key
 rw[key]
 unfold imageOk
 cases f.all bankOk<;>simp[sumElim,within_ok]
theorem specBank_loop (f:List (List Int)) (i:Nat) (h:i<f.length) (hl:(f[i].length:Int)=256):
  L181_0 ((i:Int),()) ((f,()),()) ((0:Int),())=some (if f[i].all (inR 0 255)then (Sum.inl ((256:Int),()),((f,()),()))else (Sum.inr (false,()),((f,()),()))):=by
 have key:=all_list_loop (fun k j=>n181_0 r116 k ((i:Int),()) ((f,()),()) ((j:Int),())) f[i] (inR 0 255) (Sum.inl ((256:Int),()),((f,()),())) (Sum.inr (false,()),((f,()),()))
  (fun k j hj hq=>by
   simp only[n181_0,w181_0,lenI_def]
   rw[rdE_nat .n f i h,ltI_t (show (j:Int)<256 by omega),leI_t (show (0:Int)≤(i:Int) by omega),ltI_t (show (i:Int)< (f.length:Int) by omega),leI_t (show (0:Int)≤(j:Int) by omega),ltI_t (by omega),wI_succ (by omega),
    show rdI f[i] (j:Int)=f[i][j] by simp[rdI,List.getD,hj],l1In_ok]
   simp only[cond_true,Option.bind_some,hq,Bool.not_true,cond_false])
  (fun k j hj hq=>by
   simp only[n181_0,w181_0,lenI_def]
   rw[rdE_nat .n f i h,ltI_t (show (j:Int)<256 by omega),leI_t (show (0:Int)≤(i:Int) by omega),ltI_t (show (i:Int)< (f.length:Int) by omega),leI_t (show (0:Int)≤(j:Int) by omega),ltI_t (by omega),
    show rdI f[i] (j:Int)=f[i][j] by simp[rdI,List.getD,hj],l1In_ok]
   simp only[cond_true,Option.bind_some,hq,Bool.not_false])
  (fun k=>by
   simp only[n181_0,w181_0,lenI_def]
   rw[ltI_f (by omega)]
   simp only[cond_false,hl]) fuel 0 (by omega) (by have:=fuel_big;omega)
 exact key
theorem specImageOk_ok (f:List (List Int)) (hf:small f):r181 ((f,()),())=some ((imageOk f,()),()):=by
 have h0:=hf.1
 have key:=all_list_loop (fun k i=>n181_1 r116 L181_0 k () ((f,()),()) ((i:Int),())) f bankOk (Sum.inl ((f.length:Int),()),((f,()),())) (Sum.inr (false,()),((f,()),()))
  (fun k i h hq=>by
   simp only[bankOk,Bool.and_eq_true,allR]at hq
   have h1:(f[i].length:Int)=256:=by simpa [eqI_d] using hq.1
   simp only[n181_1,w181_1,lenI_def]
   rw[ltI_t (by omega),leI_t (by omega),rdE_nat .n f i h,wI_succ (by omega),neI_f h1,specBank_loop f i h h1,hq.2]
   simp only[cond_true,cond_false,Option.bind_some,if_true,sumElim])
  (fun k i h hq=>by
   simp only[n181_1,w181_1,lenI_def]
   rw[ltI_t (by omega),leI_t (by omega),rdE_nat .n f i h]
   by_cases h1:(f[i].length:Int)=256
   ·rw[neI_f h1,specBank_loop f i h h1]
    simp only[bankOk,eqI_t h1,Bool.true_and,allR]at hq
    rw[hq]
    simp only[cond_true,cond_false,Option.bind_some,sumElim,Bool.false_eq_true,if_false]
   ·rw[neI_t h1]
    simp only[cond_true])
  (fun k=>by
   simp only[n181_1,w181_1,lenI_def]
   rw[ltI_f (by omega)];rfl) fuel 0 (by omega) (by have:=fuel_big;omega)
 unfold r181 m181 L181_1
 simp only[lenI_def]
 simp only[Int.natCast_zero,List.drop_zero]at key
 rw[key]
 unfold imageOk
 cases f.all bankOk<;>simp[sumElim,l1In_ok]
def memOk (f:List (List Int)) (x:Tup memL):Bool:=imageOk f&&(eqI (x.1.length:Int) 512&&(allR 0 255 x.1&&inR 0 ((f.length:Int)-1) x.2.1))
theorem implMemOk_ok (f:List (List Int)) (x:Tup memL) (hf:small f) (hx:x.1.length≤4398046511104):r64 ((f,()),(x,()))=some ((memOk f x,()),()):=by
 unfold r64 m64
 have:=hf.1
 simp only[implImageOk_ok f hf,bytesOk_ok x.1 (by omega),within_ok,Option.bind_some,lenI_def,cond_and]
 rw[wI_id (by omega) (by omega)]
 rfl
theorem specMemOk_ok (f:List (List Int)) (x:Tup memL) (hf:small f) (hx:x.1.length≤4398046511104):r111 ((f,()),(x,()))=some ((memOk f x,()),()):=by
 unfold r111 m111
 have:=hf.1
 simp only[specImageOk_ok f hf,l1In_ok,Option.bind_some,lenI_def]
 rw[wI_id (by omega) (by omega)]
 unfold memOk
 cases imageOk f with
 |false=>rfl
 |true=>
  simp only[Bool.not_true,cond_false,Bool.true_and]
  by_cases h1:(x.1.length:Int)=512
  ·rw[neI_f h1,eqI_t h1]
   simp only[cond_false,Bool.true_and]
   cases h2:inR 0 ((f.length:Int)-1) x.2.1 with
   |false=>simp
   |true=>
    have key:=all_list_loop (fun k i=>n111_0 r181 r116 r115 k () (x,()) ((i:Int),())) x.1 (inR 0 255) (Sum.inl ((512:Int),()),(x,())) (Sum.inr (false,()),(x,()))
     (fun k i h hq=>by
      simp only[n111_0,w111_0,lenI_def]
      rw[ltI_t (show (i:Int)<512 by omega),leI_t (by omega),ltI_t (by omega),rdE_nat .i x.1 i h,l5Byte_ok,wI_succ (by omega)]
      simp only[cond_true,Option.bind_some,hq,Bool.not_true,cond_false])
     (fun k i h hq=>by
      simp only[n111_0,w111_0,lenI_def]
      rw[ltI_t (show (i:Int)<512 by omega),leI_t (by omega),ltI_t (by omega),rdE_nat .i x.1 i h,l5Byte_ok]
      simp only[cond_true,Option.bind_some,hq,Bool.not_false])
     (fun k=>by
      simp only[n111_0,w111_0,lenI_def]
      rw[ltI_f (by omega)]
      simp only[cond_false,h1]) fuel 0 (by omega) (by have:=fuel_big;omega)
    unfold L111_0
    simp only[Int.natCast_zero,List.drop_zero]at key
    simp only[Bool.not_true,cond_false]
    rw[key]
    unfold allR
    cases x.1.all (inR 0 255)<;>simp[sumElim]
  ·rw[neI_t h1,eqI_f h1]
   rfl
def cpuOk (c:Tup cpuL):Bool:=inR 0 255 c.1&&(inR 0 255 c.2.1&&(inR 0 255 c.2.2.1&&inR 0 65535 c.2.2.2.1))
theorem implCpuOk_ok (c:Tup cpuL):r66 (c,())=some ((cpuOk c,()),()):=by
 unfold r66 m66
 simp only[isByte_ok,within_ok,Option.bind_some,cond_and]
 rfl
theorem specCpuOk_ok (c:Tup cpuL):r112 (c,())=some ((cpuOk c,()),()):=by
 unfold r112 m112
 simp only[l5Byte_ok,l1In_ok,Option.bind_some,cond_and]
 rfl
def apuOk (a:Tup apuL):Bool:=inR 0 20000 a.1&&(inR 0 255 a.2.1&&(inR 0 255 a.2.2.1&&(inR 0 1 a.2.2.2.1&&inR 0 31 a.2.2.2.2.1)))
theorem implApuOk_ok (a:Tup apuL):r122 (a,())=some ((apuOk a,()),()):=by
 unfold r122 m122
 simp only[isTime_ok,isByte_ok,within_ok,Option.bind_some,cond_and]
 rfl
theorem specApuOk_ok (a:Tup apuL):r114 (a,())=some ((apuOk a,()),()):=by
 unfold r114 m114
 simp only[l5Byte_ok,l1In_ok,Option.bind_some,cond_and]
 rfl
def dotsN (t:Int):Int:=if 48<Int.tmod t 64 then 0 else Int.tmod t 64
def ppuNum (p:Tup ppuL):Bool:=inR 0 20000 p.1&&(inR 0 255 p.2.1&&(inR 0 255 p.2.2.1&&(inR 0 15 p.2.2.2.1&&inR 0 63 p.2.2.2.2.1)))
def ppuRows (p:Tup ppuL):Bool:=eqI (p.2.2.2.2.2.2.1.length:Int) 16&&(allR 0 63 p.2.2.2.2.2.2.1&&(eqI (p.2.2.2.2.2.2.2.1.length:Int) (dotsN p.1)&&allR 0 63 p.2.2.2.2.2.2.2.1))
def ppuOk (p:Tup ppuL):Bool:=ppuNum p&&ppuRows p
theorem implPpuOk_ok (p:Tup ppuL) (h:ppuOkS p):r121 (p,())=some ((ppuOk p,()),()):=by
 unfold r121 m121
 obtain ⟨h1,h2⟩:=h
 have hd:r192 p.2.2.2.2.2.2.2=some ((allR 0 63 p.2.2.2.2.2.2.2.1,()),()):=colorsOk_ok p.2.2.2.2.2.2.2.1 (by omega)
 simp only[isTime_ok,isByte_ok,within_ok,colorsOk_ok p.2.2.2.2.2.2.1 (by omega),hd,lenI_def,Option.bind_some]
 unfold ppuOk ppuNum ppuRows dotsN
 by_cases h48:48<Int.tmod p.1 64
 ·rw[ltI_t h48,if_pos h48]
  simp only[cond_true,cond_and,cond_nand,Bool.and_assoc]
 ·rw[ltI_f h48,if_neg h48]
  simp only[cond_false,cond_and,cond_nand,Bool.and_assoc]
theorem specTable_ok (p:Tup ppuL) (h16:(p.2.2.2.2.2.2.1.length:Int)=16):
  L113_1 () (p,()) ((0:Int),())=some (if p.2.2.2.2.2.2.1.all (inR 0 63)then (Sum.inl ((16:Int),()),(p,()))else (Sum.inr (false,()),(p,()))):=by
 have key:=all_list_loop (fun k i=>n113_1 r116 r115 r182 L113_0 k () (p,()) ((i:Int),())) p.2.2.2.2.2.2.1 (inR 0 63) (Sum.inl ((16:Int),()),(p,())) (Sum.inr (false,()),(p,()))
  (fun k i h hq=>by
   simp only[n113_1,w113_1,lenI_def]
   rw[ltI_t (show (i:Int)<16 by omega),leI_t (by omega),ltI_t (by omega),rdE_nat .i p.2.2.2.2.2.2.1 i h,l1In_ok,wI_succ (by omega)]
   simp only[cond_true,Option.bind_some,hq,Bool.not_true,cond_false])
  (fun k i h hq=>by
   simp only[n113_1,w113_1,lenI_def]
   rw[ltI_t (show (i:Int)<16 by omega),leI_t (by omega),ltI_t (by omega),rdE_nat .i p.2.2.2.2.2.2.1 i h,l1In_ok]
   simp only[cond_true,Option.bind_some,hq,Bool.not_false])
  (fun k=>by
   simp only[n113_1,w113_1,lenI_def]
   rw[ltI_f (by omega)]
   simp only[cond_false,h16]) fuel 0 (by omega) (by have:=fuel_big;omega)
 exact key
theorem specDots_ok (p:Tup ppuL) (hl:p.2.2.2.2.2.2.2.1.length≤4398046511104):
  L113_0 () (p,()) ((0:Int),())=some (if p.2.2.2.2.2.2.2.1.all (inR 0 63)then (Sum.inl ((p.2.2.2.2.2.2.2.1.length:Int),()),(p,()))else (Sum.inr (false,()),(p,()))):=by
 have key:=all_list_loop (fun k i=>n113_0 r116 r115 r182 k () (p,()) ((i:Int),())) p.2.2.2.2.2.2.2.1 (inR 0 63) (Sum.inl ((p.2.2.2.2.2.2.2.1.length:Int),()),(p,())) (Sum.inr (false,()),(p,()))
  (fun k i h hq=>by
   simp only[n113_0,w113_0,lenI_def]
   rw[ltI_t (show (i:Int)<_ by omega),leI_t (by omega),rdE_nat .i p.2.2.2.2.2.2.2.1 i h,l1In_ok,wI_succ (by omega)]
   simp only[cond_true,Option.bind_some,hq,Bool.not_true,cond_false])
  (fun k i h hq=>by
   simp only[n113_0,w113_0,lenI_def]
   rw[ltI_t (show (i:Int)<_ by omega),leI_t (by omega),rdE_nat .i p.2.2.2.2.2.2.2.1 i h,l1In_ok]
   simp only[cond_true,Option.bind_some,hq,Bool.not_false])
  (fun k=>by
   simp only[n113_0,w113_0,lenI_def]
   rw[ltI_f (by omega)]
   rfl) fuel 0 (by omega) (by have:=fuel_big;omega)
 exact key
theorem specPpuOk_ok (p:Tup ppuL) (h:ppuOkS p):r113 (p,())=some ((ppuOk p,()),()):=by
 unfold r113 m113
 obtain ⟨h1,h2⟩:=h
 have hd:r182 (p.1,())=some ((dotsN p.1,()),()):=by
  unfold r182 m182 dotsN
  by_cases h48:48<Int.tmod p.1 64
  ·simp only[ltI_t h48,cond_true,h48,if_true]
  ·simp only[ltI_f h48,cond_false,h48,if_false]
 have hrest:(bif neI (p.2.2.2.2.2.2.1.length:Int) 16 then some ((false,()),())else
   bif neI (p.2.2.2.2.2.2.2.1.length:Int) (dotsN p.1)then some ((false,()),())
   else (L113_1 () (p,()) ((0:Int),())).bind fun r6=>sumElim r6.1 (fun r7=>(L113_0 () ((r6.2.1.1,(r6.2.1.2.1,(r6.2.1.2.2.1,(r6.2.1.2.2.2.1,(r6.2.1.2.2.2.2.1,(r6.2.1.2.2.2.2.2.1,p.2.2.2.2.2.2)))))),()) ((0:Int),())).bind fun r8=>
    sumElim r8.1 (fun r9=>some ((true,()),())) (fun r9=>some (r9,()))) (fun r7=>some (r7,())))=some ((ppuRows p,()),()):=by
  unfold ppuRows
  by_cases h16:(p.2.2.2.2.2.2.1.length:Int)=16
  ·rw[neI_f h16,eqI_t h16,cond_false]
   by_cases hdn:(p.2.2.2.2.2.2.2.1.length:Int)=dotsN p.1
   ·rw[neI_f hdn,eqI_t hdn,cond_false,specTable_ok p h16]
    unfold allR
    cases p.2.2.2.2.2.2.1.all (inR 0 63)with
    |false=>rfl
    |true=>
     simp only[if_true,Option.bind_some,sumElim]
     rw[show ((p.1,(p.2.1,(p.2.2.1,(p.2.2.2.1,(p.2.2.2.2.1,(p.2.2.2.2.2.1,p.2.2.2.2.2.2)))))):Tup ppuL)=p from rfl,specDots_ok p h2]
     cases p.2.2.2.2.2.2.2.1.all (inR 0 63)<;>rfl
   ·rw[neI_t hdn,eqI_f hdn,cond_true]
    simp
  ·rw[neI_t h16,eqI_f h16,cond_true]
   rfl
 simp only[l1In_ok,l5Byte_ok,hd,lenI_def,Option.bind_some]
 rw[hrest]
 simp only[cond_nand]
 unfold ppuOk ppuNum
 simp only[Bool.and_assoc]
abbrev ringL:List LT:=[.int .i64, .sl false .t]
def ringAt (l:List (Int×Int×Int)) (i:Nat):Bool:=inR 0 20000 (rdE .t l (i:Int)).1&&(inR 0 7 (rdE .t l (i:Int)).2.1&&(inR 0 255 (rdE .t l (i:Int)).2.2&&(decide (i=0)|| !ltI (rdE .t l (i:Int)).1 (rdE .t l ((i-1:Nat):Int)).1)))
def ringOk (r:Tup ringL):Bool:=(List.range' 0 r.2.1.length).all (ringAt r.2.1)&&(inR 1 16 r.1&&leI (r.2.1.length:Int) r.1)
theorem wI_pred {i:Nat} (h:i≠0) (h2:i<9223372036854775807):wI ((i:Int)-1)=((i-1:Nat):Int):=by
 rw[wI_id (by omega) (by omega)];omega
theorem implRing_round (r:Tup ringL) (hl:r.2.1.length≤4398046511104) (k i:Nat) (h:i<r.2.1.length):
  n162_0 r69 r70 r71 (k+1) (r.2.1,((r.2.1.length:Int),())) (r,()) ((i:Int),())=
   bif ringAt r.2.1 i then n162_0 r69 r70 r71 k (r.2.1,((r.2.1.length:Int),())) (r,()) (((i+1:Nat):Int),())else some (Sum.inr (false,()),(r,())):=by
 simp only[n162_0,w162_0,lenI_def]
 rw[ltI_t (show (i:Int)<_ by omega),leI_t (show (0:Int)≤(i:Int) by omega),wI_succ (by omega)]
 simp only[cond_true,isTime_ok,within_ok,isByte_ok,Option.bind_some]
 unfold ringAt
 generalize inR 0 20000 (rdE .t r.2.1 (i:Int)).1=x1
 generalize inR 0 7 (rdE .t r.2.1 (i:Int)).2.1=x2
 generalize inR 0 255 (rdE .t r.2.1 (i:Int)).2.2=x3
 by_cases h0:i=0
 ·subst h0
  rw[ltI_f (by omega)]
  cases x1<;>cases x2<;>cases x3<;>rfl
 ·rw[ltI_t (by omega),wI_pred h0 (by omega),leI_t (by omega),ltI_t (by omega),decide_eq_false h0]
  generalize ltI (rdE .t r.2.1 (i:Int)).1 (rdE .t r.2.1 ((i-1:Nat):Int)).1=x4
  cases x1<;>cases x2<;>cases x3<;>cases x4<;>rfl
theorem implRingOk_ok (r:Tup ringL) (hl:r.2.1.length≤4398046511104):r162 (r,())=some ((ringOk r,()),()):=by
 have key:=all_idx_loop (fun k i=>n162_0 r69 r70 r71 k (r.2.1,((r.2.1.length:Int),())) (r,()) ((i:Int),())) r.2.1.length (ringAt r.2.1) (Sum.inl ((r.2.1.length:Int),()),(r,())) (Sum.inr (false,()),(r,()))
  (fun k i h hq=>by simp only[implRing_round r hl k i h,hq,cond_true])
  (fun k i h hq=>by simp only[implRing_round r hl k i h,hq,cond_false])
  (fun k=>by
   simp only[n162_0,w162_0,lenI_def]
   rw[ltI_f (by omega)];rfl) fuel 0 (by omega) (by have:=fuel_big;omega)
 unfold r162 m162 L162_0
 simp only[lenI_def]
 simp only[Int.natCast_zero,Nat.sub_zero]at key
 rw[key]
 unfold ringOk
 cases (List.range' 0 r.2.1.length).all (ringAt r.2.1)with
 |false=>rfl
 |true=>simp only[if_true,Option.bind_some,sumElim,within_ok,cond_and,Bool.true_and]
theorem specRing_round (r:Tup ringL) (hl:r.2.1.length≤4398046511104) (k i:Nat) (h:i<r.2.1.length):
  n205_0 r116 r115 (k+1) () (r,()) ((i:Int),())=
   bif ringAt r.2.1 i then n205_0 r116 r115 k () (r,()) (((i+1:Nat):Int),())else some (Sum.inr (false,()),(r,())):=by
 simp only[n205_0,w205_0,lenI_def]
 rw[ltI_t (show (i:Int)<_ by omega),leI_t (show (0:Int)≤(i:Int) by omega),wI_succ (by omega)]
 simp only[cond_true,l1In_ok,l5Byte_ok,Option.bind_some]
 unfold ringAt
 generalize inR 0 20000 (rdE .t r.2.1 (i:Int)).1=x1
 generalize inR 0 7 (rdE .t r.2.1 (i:Int)).2.1=x2
 generalize inR 0 255 (rdE .t r.2.1 (i:Int)).2.2=x3
 by_cases h0:i=0
 ·subst h0
  rw[ltI_f (by omega)]
  cases x1<;>cases x2<;>cases x3<;>rfl
 ·rw[ltI_t (by omega),wI_pred h0 (by omega),leI_t (by omega),ltI_t (by omega),decide_eq_false h0]
  generalize ltI (rdE .t r.2.1 (i:Int)).1 (rdE .t r.2.1 ((i-1:Nat):Int)).1=x4
  cases x1<;>cases x2<;>cases x3<;>cases x4<;>rfl
theorem specRingOk_ok (r:Tup ringL) (hl:r.2.1.length≤4398046511104):r205 (r,())=some ((ringOk r,()),()):=by
 have key:=all_idx_loop (fun k i=>n205_0 r116 r115 k () (r,()) ((i:Int),())) r.2.1.length (ringAt r.2.1) (Sum.inl ((r.2.1.length:Int),()),(r,())) (Sum.inr (false,()),(r,()))
  (fun k i h hq=>by simp only[specRing_round r hl k i h,hq,cond_true])
  (fun k i h hq=>by simp only[specRing_round r hl k i h,hq,cond_false])
  (fun k=>by
   simp only[n205_0,w205_0,lenI_def]
   rw[ltI_f (by omega)];rfl) fuel 0 (by omega) (by have:=fuel_big;omega)
 unfold r205 m205 L205_0
 simp only[lenI_def]
 simp only[Int.natCast_zero,Nat.sub_zero]at key
 rw[key]
 unfold ringOk
 cases (List.range' 0 r.2.1.length).all (ringAt r.2.1)with
 |false=>rfl
 |true=>simp only[if_true,Option.bind_some,sumElim,l1In_ok,cond_and,Bool.true_and]
def ringHead (r:Tup ringL) (t:Int):Bool:=if r.2.1.length=0 then true else leI t (rdE .t r.2.1 (0:Int)).1
theorem ringFrom_ok (r:Tup ringL) (t:Int) (hl:r.2.1.length≤4398046511104):r144 (r,(t,()))=some ((ringOk r&&ringHead r t,()),()):=by
 unfold r144 m144
 simp only[implRingOk_ok r hl,Option.bind_some,lenI_def]
 unfold ringHead
 cases ringOk r with
 |false=>rfl
 |true=>
  by_cases h:r.2.1.length=0
  ·rw[eqI_t (by omega),if_pos h];rfl
  ·rw[eqI_f (by omega),if_neg h,ltI_t (by omega)];rfl
def framesOk (f:List (List Int)) (t:Int):Bool:=f.all (fun l=>eqI (l.length:Int) 48)&&eqI (f.length:Int) (Int.tdiv (t+15) 64)
theorem tdiv_id {t c d:Int} (h0:0≤t) (h1:t≤20000) (hc:0≤c) (hc2:c≤64) (hd:d=64∨d=16):wI (Int.tdiv (t+c) d)=Int.tdiv (t+c) d:=by
 rw[Int.tdiv_eq_ediv_of_nonneg (by omega)]
 rcases hd with rfl|rfl<;>exact wI_id (by omega) (by omega)
theorem implFramesOk_ok (f:List (List Int)) (t:Int) (hf:f.length≤4398046511104) (h0:0≤t) (h1:t≤20000):r123 (f,(t,()))=some ((framesOk f t,()),()):=by
 have key:=all_list_loop (fun k i=>n123_0 r193 k (f,((f.length:Int),())) () ((i:Int),())) f (fun l=>eqI (l.length:Int) 48) (Sum.inl ((f.length:Int),()),()) (Sum.inr (false,()),())
  (fun k i h hq=>by
   simp only[n123_0,w123_0,lenI_def]
   rw[ltI_t (by omega),leI_t (by omega),rdE_nat .n f i h,wI_succ (by omega)]
   have:(f[i].length:Int)=48:=by simpa [eqI_d] using hq
   rw[neI_f this]
   simp only[cond_true,cond_false])
  (fun k i h hq=>by
   simp only[n123_0,w123_0,lenI_def]
   rw[ltI_t (by omega),leI_t (by omega),rdE_nat .n f i h]
   have: ¬(f[i].length:Int)=48:=by simpa [eqI_d] using hq
   rw[neI_t this]
   simp only[cond_true])
  (fun k=>by
   simp only[n123_0,w123_0,lenI_def]
   rw[ltI_f (by omega)];rfl) fuel 0 (by omega) (by have:=fuel_big;omega)
 unfold r123 m123 L123_0
 simp only[lenI_def]
 simp only[Int.natCast_zero,List.drop_zero]at key
 rw[key]
 unfold framesOk
 cases f.all (fun l=>eqI (l.length:Int) 48)with
 |false=>rfl
 |true=>
  have hc:r193 (t,((48:Int),((64:Int),())))=some ((Int.tdiv (t+15) 64,()),()):=by
   unfold r193 m193
   simp only
   rw[neI_t (by omega),wI_id (x:=t+64) (by omega) (by omega),wI_id (x:=t+64-1) (by omega) (by omega),wI_id (x:=t+64-1-48) (by omega) (by omega),show t+64-1-48=t+15 by omega,tdiv_id h0 h1 (by omega) (by omega) (.inl rfl)]
   rfl
  simp only[if_true,Option.bind_some,sumElim,hc,Bool.true_and]
theorem specFramesOk_ok (f:List (List Int)) (t:Int) (hf:f.length≤4398046511104) (h0:0≤t) (h1:t≤20000):r117 (f,(t,()))=some ((framesOk f t,()),()):=by
 have key:=all_list_loop (fun k i=>n117_0 r183 k (f,()) () ((i:Int),())) f (fun l=>eqI (l.length:Int) 48) (Sum.inl ((f.length:Int),()),()) (Sum.inr (false,()),())
  (fun k i h hq=>by
   simp only[n117_0,w117_0,lenI_def]
   rw[ltI_t (by omega),leI_t (by omega),rdE_nat .n f i h,wI_succ (by omega)]
   have:(f[i].length:Int)=48:=by simpa [eqI_d] using hq
   rw[neI_f this]
   simp only[cond_true,cond_false])
  (fun k i h hq=>by
   simp only[n117_0,w117_0,lenI_def]
   rw[ltI_t (by omega),leI_t (by omega),rdE_nat .n f i h]
   have: ¬(f[i].length:Int)=48:=by simpa [eqI_d] using hq
   rw[neI_t this]
   simp only[cond_true])
  (fun k=>by
   simp only[n117_0,w117_0,lenI_def]
   rw[ltI_f (by omega)];rfl) fuel 0 (by omega) (by have:=fuel_big;omega)
 unfold r117 m117 L117_0
 simp only[lenI_def]
 simp only[Int.natCast_zero,List.drop_zero]at key
 rw[key]
 unfold framesOk
 cases f.all (fun l=>eqI (l.length:Int) 48)with
 |false=>rfl
 |true=>
  have hc:r183 (t,())=some ((Int.tdiv (t+15) 64,()),()):=by
   unfold r183 m183
   simp only
   rw[wI_id (x:=t+64) (by omega) (by omega),wI_id (x:=t+64-48) (by omega) (by omega),wI_id (x:=t+64-48-1) (by omega) (by omega),show t+64-48-1=t+15 by omega,tdiv_id h0 h1 (by omega) (by omega) (.inl rfl)]
  simp only[if_true,Option.bind_some,sumElim,hc,Bool.true_and]
def samplesOk (s:List Int) (t:Int):Bool:=eqI (s.length:Int) (Int.tdiv t 16)
theorem implSamplesOk_ok (s:List Int) (t:Int) (h0:0≤t) (h1:t≤20000):r124 (s,(t,()))=some ((samplesOk s t,()),()):=by
 unfold r124 m124 r193 m193
 simp only
 rw[neI_t (by omega),wI_id (x:=t+16) (by omega) (by omega),wI_id (x:=t+16-1) (by omega) (by omega),wI_id (x:=t+16-1-15) (by omega) (by omega),show t+16-1-15=t+0 by omega,tdiv_id h0 h1 (by omega) (by omega) (.inr rfl),Int.add_zero]
 rfl
abbrev picL:List LT:=ppuL++(ringL++[.sl false .n])
abbrev sndL:List LT:=apuL++(ringL++[.sl false .i])
abbrev pcPpu (w:Tup picL):Tup ppuL:=(w.1,(w.2.1,(w.2.2.1,(w.2.2.2.1,(w.2.2.2.2.1,(w.2.2.2.2.2.1,(w.2.2.2.2.2.2.1,(w.2.2.2.2.2.2.2.1,()))))))))
abbrev pcRing (w:Tup picL):Tup ringL:=(w.2.2.2.2.2.2.2.2.1,(w.2.2.2.2.2.2.2.2.2.1,()))
abbrev sdApu (w:Tup sndL):Tup apuL:=(w.1,(w.2.1,(w.2.2.1,(w.2.2.2.1,(w.2.2.2.2.1,(w.2.2.2.2.2.1,(w.2.2.2.2.2.2.1,())))))))
abbrev sdRing (w:Tup sndL):Tup ringL:=(w.2.2.2.2.2.2.2.1,(w.2.2.2.2.2.2.2.2.1,()))
def picOkS (w:Tup picL):Prop:=ppuOkS (pcPpu w)∧(pcRing w).2.1.length≤4398046511104∧small w.2.2.2.2.2.2.2.2.2.2.1
def sndOkS (w:Tup sndL):Prop:=(sdRing w).2.1.length≤4398046511104∧w.2.2.2.2.2.2.2.2.2.1.length≤4398046511104
def picOk (w:Tup picL):Bool:=ppuOk (pcPpu w)&&(ringOk (pcRing w)&&(ringHead (pcRing w) w.1&&framesOk w.2.2.2.2.2.2.2.2.2.2.1 w.1))
def sndOk (w:Tup sndL):Bool:=apuOk (sdApu w)&&(ringOk (sdRing w)&&(ringHead (sdRing w) w.1&&samplesOk w.2.2.2.2.2.2.2.2.2.1 w.1))
theorem ppuOk_t {p:Tup ppuL} (h:ppuOk p=true):0≤p.1∧p.1≤20000:=by
 simp only[ppuOk,ppuNum,Bool.and_eq_true]at h
 exact inR_iff.1 h.1.1
theorem apuOk_t {p:Tup apuL} (h:apuOk p=true):0≤p.1∧p.1≤20000:=by
 simp only[apuOk,Bool.and_eq_true]at h
 exact inR_iff.1 h.1
theorem implPictureOk_ok (w:Tup picL) (h:picOkS w):r67 (w,())=some ((picOk w,()),()):=by
 unfold r67 m67 picOk
 obtain ⟨h1,h2,h3⟩:=h
 simp only[implPpuOk_ok (pcPpu w) h1,ringFrom_ok (pcRing w) w.1 h2,Option.bind_some]
 cases e:ppuOk (pcPpu w)with
 |false=>rfl
 |true=>
  obtain ⟨t0,t1⟩:=ppuOk_t e
  simp only[implFramesOk_ok w.2.2.2.2.2.2.2.2.2.2.1 w.1 h3.1 t0 t1,Option.bind_some,cond_true,cond_and,Bool.and_assoc,Bool.true_and]
theorem specPictureOk_ok (w:Tup picL) (h:picOkS w):r136 (w,())=some ((picOk w,()),()):=by
 unfold r136 m136 picOk
 obtain ⟨h1,h2,h3⟩:=h
 simp only[specPpuOk_ok (pcPpu w) h1,specRingOk_ok (pcRing w) h2,Option.bind_some,lenI_def]
 cases e:ppuOk (pcPpu w)with
 |false=>rfl
 |true=>
  obtain ⟨t0,t1⟩:=ppuOk_t e
  simp only[specFramesOk_ok w.2.2.2.2.2.2.2.2.2.2.1 w.1 h3.1 t0 t1,Option.bind_some,Bool.not_true,cond_false,Bool.true_and]
  unfold ringHead
  cases ringOk (pcRing w)with
  |false=>rfl
  |true=>
   by_cases hz:(pcRing w).2.1.length=0
   ·rw[eqI_t (by have:w.2.2.2.2.2.2.2.2.2.1.length=0:=hz;omega),if_pos hz]
    simp
   ·rw[eqI_f (by have: ¬w.2.2.2.2.2.2.2.2.2.1.length=0:=hz;omega),if_neg hz,ltI_t (by have: ¬w.2.2.2.2.2.2.2.2.2.1.length=0:=hz;omega)]
    simp only[cond_and,Bool.not_true,cond_false,cond_true,Bool.true_and]
theorem implSoundOk_ok (w:Tup sndL) (h:sndOkS w):r68 (w,())=some ((sndOk w,()),()):=by
 unfold r68 m68 sndOk
 obtain ⟨h1,h2⟩:=h
 simp only[implApuOk_ok (sdApu w),ringFrom_ok (sdRing w) w.1 h1,Option.bind_some]
 cases e:apuOk (sdApu w)with
 |false=>rfl
 |true=>
  obtain ⟨t0,t1⟩:=apuOk_t e
  simp only[implSamplesOk_ok w.2.2.2.2.2.2.2.2.2.1 w.1 t0 t1,Option.bind_some,cond_true,cond_and,Bool.and_assoc,Bool.true_and]
theorem specSoundOk_ok (w:Tup sndL) (h:sndOkS w):r137 (w,())=some ((sndOk w,()),()):=by
 unfold r137 m137 sndOk
 obtain ⟨h1,h2⟩:=h
 simp only[specApuOk_ok (sdApu w),specRingOk_ok (sdRing w) h1,Option.bind_some,lenI_def]
 cases e:apuOk (sdApu w)with
 |false=>rfl
 |true=>
  obtain ⟨t0,t1⟩:=apuOk_t e
  have et:wI (Int.tdiv w.1 16)=Int.tdiv w.1 16:=by
   have:=tdiv_id (c:=0) t0 t1 (by omega) (by omega) (.inr rfl:(16:Int)=64∨(16:Int)=16)
   simpa using this
  rw[et]
  unfold ringHead samplesOk
  cases ringOk (sdRing w)with
  |false=>rfl
  |true=>
   by_cases hz:(sdRing w).2.1.length=0
   ·rw[eqI_t (show (w.2.2.2.2.2.2.2.2.1.length:Int)=0 by have:w.2.2.2.2.2.2.2.2.1.length=0:=hz;omega),if_pos hz]
    simp
   ·rw[eqI_f (show¬(w.2.2.2.2.2.2.2.2.1.length:Int)=0 by have: ¬w.2.2.2.2.2.2.2.2.1.length=0:=hz;omega),if_neg hz,ltI_t (by have: ¬w.2.2.2.2.2.2.2.2.1.length=0:=hz;omega)]
    simp only[cond_and,Bool.not_true,cond_false,cond_true,Bool.true_and]
abbrev splitL:List LT:= .sl false .n:: .sl false .i::(memL++(cpuL++(padL++(.int .i64:: .bool:: .int .i64:: .bool:: .int .i64:: .int .i64:: .sl false .i::(picL++sndL)))))
section
variable (s:Tup splitL)
abbrev spImg:List (List Int):=s.1
abbrev spPads:List Int:=s.2.1
abbrev spMem:Tup memL:=(s.2.2.1,(s.2.2.2.1,()))
abbrev spCpu:Tup cpuL:=(s.2.2.2.2.1,(s.2.2.2.2.2.1,(s.2.2.2.2.2.2.1,(s.2.2.2.2.2.2.2.1,(s.2.2.2.2.2.2.2.2.1,(s.2.2.2.2.2.2.2.2.2.1,(s.2.2.2.2.2.2.2.2.2.2.1,(s.2.2.2.2.2.2.2.2.2.2.2.1,()))))))))
abbrev spPad:Tup padL:=(s.2.2.2.2.2.2.2.2.2.2.2.2.1,(s.2.2.2.2.2.2.2.2.2.2.2.2.2.1,()))
abbrev spShift:Int:=s.2.2.2.2.2.2.2.2.2.2.2.2.2.1
abbrev spT:Int:=s.2.2.2.2.2.2.2.2.2.2.2.2.2.2.1
abbrev spNmi:Bool:=s.2.2.2.2.2.2.2.2.2.2.2.2.2.2.2.1
abbrev spCtrl:Int:=s.2.2.2.2.2.2.2.2.2.2.2.2.2.2.2.2.1
abbrev spKnownAt:Int:=s.2.2.2.2.2.2.2.2.2.2.2.2.2.2.2.2.2.2.1
abbrev spSteps:Int:=s.2.2.2.2.2.2.2.2.2.2.2.2.2.2.2.2.2.2.2.1
abbrev spReads:List Int:=s.2.2.2.2.2.2.2.2.2.2.2.2.2.2.2.2.2.2.2.2.1
abbrev spPic:Tup picL:=(s.2.2.2.2.2.2.2.2.2.2.2.2.2.2.2.2.2.2.2.2.2.1,(s.2.2.2.2.2.2.2.2.2.2.2.2.2.2.2.2.2.2.2.2.2.2.1,(s.2.2.2.2.2.2.2.2.2.2.2.2.2.2.2.2.2.2.2.2.2.2.2.1,(s.2.2.2.2.2.2.2.2.2.2.2.2.2.2.2.2.2.2.2.2.2.2.2.2.1,(s.2.2.2.2.2.2.2.2.2.2.2.2.2.2.2.2.2.2.2.2.2.2.2.2.2.1,(s.2.2.2.2.2.2.2.2.2.2.2.2.2.2.2.2.2.2.2.2.2.2.2.2.2.2.1,(s.2.2.2.2.2.2.2.2.2.2.2.2.2.2.2.2.2.2.2.2.2.2.2.2.2.2.2.1,(s.2.2.2.2.2.2.2.2.2.2.2.2.2.2.2.2.2.2.2.2.2.2.2.2.2.2.2.2.1,(s.2.2.2.2.2.2.2.2.2.2.2.2.2.2.2.2.2.2.2.2.2.2.2.2.2.2.2.2.2.1,(s.2.2.2.2.2.2.2.2.2.2.2.2.2.2.2.2.2.2.2.2.2.2.2.2.2.2.2.2.2.2.1,(s.2.2.2.2.2.2.2.2.2.2.2.2.2.2.2.2.2.2.2.2.2.2.2.2.2.2.2.2.2.2.2.1,())))))))))))
abbrev spSnd:Tup sndL:=s.2.2.2.2.2.2.2.2.2.2.2.2.2.2.2.2.2.2.2.2.2.2.2.2.2.2.2.2.2.2.2.2
end
theorem ltI_not (a b:Int):ltI a b= !leI b a:=by
 by_cases h:a<b
 ·rw[ltI_t h,leI_f (by omega)];rfl
 ·rw[ltI_f h,leI_t (by omega)];rfl
def ringLast (r:Tup ringL) (t:Int):Bool:=if r.2.1.length=0 then true else leI (rdE .t r.2.1 ((r.2.1.length-1:Nat):Int)).1 t
theorem ringUpto_ok (r:Tup ringL) (t:Int) (hl:r.2.1.length≤4398046511104):r72 (r,(t,()))=some ((ringLast r t,()),()):=by
 unfold r72 m72 ringLast
 simp only[lenI_def]
 by_cases h:r.2.1.length=0
 ·rw[eqI_t (by omega),if_pos h];rfl
 ·rw[eqI_f (by omega),if_neg h,wI_pred h (by omega),leI_t (by omega),ltI_t (by omega)];rfl
def lastT (r:Tup ringL):Int:=if r.2.1.length=0 then 0 else (rdE .t r.2.1 ((r.2.1.length-1:Nat):Int)).1
theorem l14Last_ok (r:Tup ringL) (hl:r.2.1.length≤4398046511104):r138 (r,())=some ((lastT r,()),()):=by
 unfold r138 m138 lastT
 simp only[lenI_def]
 by_cases h:r.2.1.length=0
 ·rw[eqI_t (by omega),if_pos h];rfl
 ·rw[eqI_f (by omega),if_neg h,wI_pred h (by omega),leI_t (by omega),ltI_t (by omega)];rfl
theorem lastT_le (r:Tup ringL) (t:Int) (h:0≤t):leI (lastT r) t=ringLast r t:=by
 unfold lastT ringLast
 split
 ·rw[leI_t h]
 ·rfl
def splitOkS (s:Tup splitL):Prop:=small (spImg s)∧(spPads s).length≤4398046511104∧(spMem s).1.length≤4398046511104∧(spReads s).length≤4398046511104∧picOkS (spPic s)∧sndOkS (spSnd s)
def splitNum (s:Tup splitL):Bool:=inR 0 255 (spShift s)&&(inR 0 255 (spCtrl s)&&(inR 0 20000 (spT s)&&(inR 0 (spT s) (spKnownAt s)&&inR 0 (spT s) (spSteps s))))
def splitParts (s:Tup splitL):Bool:=memOk (spImg s) (spMem s)&&(padsOk (spPads s)&&(cpuOk (spCpu s)&&(picOk (spPic s)&&sndOk (spSnd s))))
def splitEnd (s:Tup splitL):Bool:=leI (spPic s).1 (spT s)&&(leI (spSnd s).1 (spT s)&&(ringLast (pcRing (spPic s)) (spT s)&&ringLast (sdRing (spSnd s)) (spT s)))
def splitOk (s:Tup splitL):Bool:=splitParts s&&(splitNum s&&splitEnd s)
theorem implSplitOk_ok (s:Tup splitL) (h:splitOkS s):r16 (s,())=some ((splitOk s,()),()):=by
 unfold r16 m16
 obtain ⟨h1,h2,h3,_,h5,h6⟩:=h
 simp only[implMemOk_ok (spImg s) (spMem s) h1 h3,implPadsOk_ok (spPads s) (by omega),implCpuOk_ok (spCpu s),implPictureOk_ok (spPic s) h5,implSoundOk_ok (spSnd s) h6,isByte_ok,isTime_ok,within_ok,
  ringUpto_ok (pcRing (spPic s)) _ h5.2.1,ringUpto_ok (sdRing (spSnd s)) _ h6.1,Option.bind_some]
 unfold splitOk splitParts splitNum splitEnd
 generalize memOk (spImg s) (spMem s)=x0
 generalize padsOk (spPads s)=x1
 generalize cpuOk (spCpu s)=x2
 generalize picOk (spPic s)=x3
 generalize sndOk (spSnd s)=x4
 generalize ringLast (pcRing (spPic s)) (spT s)=x5
 generalize ringLast (sdRing (spSnd s)) (spT s)=x6
 cases x0<;>cases x1<;>cases x2<;>cases x3<;>cases x4<;>first| (simp[cond_and];done)| (simp[cond_and,Bool.and_assoc];done)
theorem specSplitOk_ok (s:Tup splitL) (h:splitOkS s):r61 (s,())=some ((splitOk s,()),()):=by
 unfold r61 m61
 obtain ⟨h1,h2,h3,_,h5,h6⟩:=h
 simp only[specMemOk_ok (spImg s) (spMem s) h1 h3,specPadsOk_ok (spPads s) (by omega),specCpuOk_ok (spCpu s),specPictureOk_ok (spPic s) h5,specSoundOk_ok (spSnd s) h6,l5Byte_ok,l1In_ok,
  l14Last_ok (pcRing (spPic s)) h5.2.1,l14Last_ok (sdRing (spSnd s)) h6.1,Option.bind_some]
 unfold splitOk splitParts splitNum splitEnd
 generalize memOk (spImg s) (spMem s)=x0
 generalize padsOk (spPads s)=x1
 generalize cpuOk (spCpu s)=x2
 generalize picOk (spPic s)=x3
 generalize sndOk (spSnd s)=x4
 cases hT:inR 0 20000 (spT s)with
 |false=>cases x0<;>cases x1<;>cases x2<;>cases x3<;>cases x4<;>simp[cond_nand]
 |true=>
  have t0:=(inR_iff.1 hT).1
  rw[lastT_le _ _ t0,lastT_le _ _ t0]
  have e1:ltI (spT s) (spPic s).1= !leI (spPic s).1 (spT s):=ltI_not _ _
  have e2:ltI (spT s) (spSnd s).1= !leI (spSnd s).1 (spT s):=ltI_not _ _
  rw[e1,e2]
  cases x0<;>cases x1<;>cases x2<;>cases x3<;>cases x4<;>first| (simp[cond_nand,cond_and];done)| (simp[cond_nand,cond_and,Bool.and_assoc];done)| (simp[cond_nand,cond_and,Bool.and_assoc];rfl)
theorem copyInts_ok (l:List Int) (h:l.length≤4398046511104):r75 (l,())=some ((l,()),()):=by
 unfold r75 m75
 rw[leN_t (by simp only[E.most];omega)]
 rfl
theorem copyImage_ok (f:List (List Int)) (h:small f):r79 ((f,()),())=some (((f,()),()),()):=by
 have h0:=h.1
 have key:=app_list_loop (fun k i out=>n79_0 r75 k (f,((f.length:Int),())) ((out,()),()) ((i:Int),())) f (fun out=>(Sum.inl ((f.length:Int),()),((out,()),())))
  (fun k i out hi ho=>by
   simp only[n79_0,w79_0,lenI_def]
   rw[ltI_t (by omega),leI_t (by omega),rdE_nat .n f i hi,wI_succ (by omega),copyInts_ok _ (h.2.1 _ (List.getElem_mem hi))]
   simp only[cond_true,Option.bind_some]
   rw[leN_t (by simp only[E.most,List.length_singleton];omega)]
   rfl)
  (fun k out ho=>by
   simp only[n79_0,w79_0,lenI_def]
   rw[ltI_f (by omega)];rfl) fuel 0 [] (by omega) rfl (by have:=fuel_big;omega)
 unfold r79 m79 L79_0
 simp only[lenI_def]
 simp only[Int.natCast_zero,List.drop_zero,List.nil_append]at key
 rw[key]
 rfl
theorem l12Image_ok (f:List (List Int)) (h:small f):r101 ((f,()),())=some (((f,()),()),()):=by
 have h0:=h.1
 have key:=app_list_loop (fun k i out=>n101_0 k () ((f,()),((out,()),())) ((i:Int),())) f (fun out=>(Sum.inl ((f.length:Int),()),((f,()),((out,()),()))))
  (fun k i out hi ho=>by
   have hl:=h.2.1 _ (List.getElem_mem hi)
   simp only[n101_0,w101_0,lenI_def]
   rw[ltI_t (by omega),leI_t (by omega),rdE_nat .n f i hi,wI_succ (by omega)]
   rw[leN_t (by simp only[E.most];omega),leN_t (by simp only[E.most,List.length_singleton];omega)]
   rfl)
  (fun k out ho=>by
   simp only[n101_0,w101_0,lenI_def]
   rw[ltI_f (by omega)];rfl) fuel 0 [] (by omega) rfl (by have:=fuel_big;omega)
 unfold r101 m101 L101_0
 simp only[Int.natCast_zero,List.drop_zero,List.nil_append]at key
 rw[key]
 rfl
theorem copyFrames_ok (f:List (List Int)) (h:small f):r74 (f,())=some ((f,()),()):=by
 have h0:=h.1
 have key:=app_list_loop (fun k i out=>n74_0 r75 k (f,((f.length:Int),())) () (out,((i:Int),()))) f (fun out=>(Sum.inl (out,((f.length:Int),())),()))
  (fun k i out hi ho=>by
   simp only[n74_0,w74_0,lenI_def]
   rw[ltI_t (by omega),leI_t (by omega),rdE_nat .n f i hi,wI_succ (by omega),copyInts_ok _ (h.2.1 _ (List.getElem_mem hi))]
   simp only[cond_true,Option.bind_some]
   rw[leN_t (by simp only[E.most,List.length_singleton];omega)]
   rfl)
  (fun k out ho=>by
   simp only[n74_0,w74_0,lenI_def]
   rw[ltI_f (by omega)];rfl) fuel 0 [] (by omega) rfl (by have:=fuel_big;omega)
 unfold r74 m74 L74_0
 simp only[lenI_def]
 simp only[Int.natCast_zero,List.drop_zero,List.nil_append]at key
 rw[key]
 rfl
theorem copyMem_ok (x:Tup memL) (h:x.1.length≤4398046511104):r131 (x,())=some ((x,()),()):=by
 unfold r131 m131
 exact bind_step (copyInts_ok x.1 h) rfl
theorem copyPpu_ok (p:Tup ppuL) (h:ppuOkS p):r148 (p,())=some ((p,()),()):=by
 unfold r148 m148
 exact bind_step (copyInts_ok p.2.2.2.2.2.2.1 h.1) (bind_step (copyInts_ok p.2.2.2.2.2.2.2.1 h.2) rfl)
theorem copyRing_ok (r:Tup ringL) (h:r.2.1.length≤4398046511104):r100 (r,())=some ((r,()),()):=by
 unfold r100 m100
 simp only
 rw[leN_t (by simp only[E.most];omega)]
 rfl
theorem copyPicture_ok (w:Tup picL) (h:picOkS w):r132 (w,())=some ((w,()),()):=by
 unfold r132 m132
 exact bind_step (copyPpu_ok (pcPpu w) h.1) (bind_step (copyRing_ok (pcRing w) h.2.1) (bind_step (copyFrames_ok w.2.2.2.2.2.2.2.2.2.2.1 h.2.2) rfl))
theorem copySound_ok (w:Tup sndL) (h:sndOkS w):r133 (w,())=some ((w,()),()):=by
 unfold r133 m133
 exact bind_step (copyRing_ok (sdRing w) h.1) (bind_step (copyInts_ok w.2.2.2.2.2.2.2.2.2.1 h.2) rfl)
theorem copySplit_ok (s:Tup splitL) (h:splitOkS s):r58 (s,())=some ((s,()),()):=by
 unfold r58 m58
 obtain ⟨h1,h2,h3,h4,h5,h6⟩:=h
 exact bind_step (copyImage_ok (spImg s) h1) (bind_step (copyInts_ok (spPads s) h2) (bind_step (copyMem_ok (spMem s) h3) (bind_step (copyInts_ok (spReads s) h4) (bind_step (copyPicture_ok (spPic s) h5) (bind_step (copySound_ok (spSnd s) h6) rfl)))))
abbrev spFrames (s:Tup splitL):List (List Int):=(spPic s).2.2.2.2.2.2.2.2.2.2.1
abbrev spSamples (s:Tup splitL):List Int:=(spSnd s).2.2.2.2.2.2.2.2.2.1
def obsOf (s:Tup splitL):Tup obsL:=(spFrames s,(spSamples s,(spReads s,())))
theorem implObsOf_ok (s:Tup splitL) (h:splitOkS s):r20 (s,())=some ((obsOf s,()),()):=by
 unfold r20 m20
 obtain ⟨h1,h2,h3,h4,h5,h6⟩:=h
 exact bind_step (copyFrames_ok (spFrames s) h5.2.2) (bind_step (copyInts_ok (spSamples s) h6.2) (bind_step (copyInts_ok (spReads s) h4) rfl))
def picUp (s:Tup splitL):Bool:=eqI (spPic s).1 (spT s)&&eqI ((pcRing (spPic s)).2.1.length:Int) 0
def sndUp (s:Tup splitL):Bool:=eqI (spSnd s).1 (spT s)&&eqI ((sdRing (spSnd s)).2.1.length:Int) 0
theorem pictureCaught_ok (s:Tup splitL):r86 (s,())=some ((picUp s,()),()):=by
 unfold r86 m86
 simp only[lenI_def,cond_and]
 rfl
theorem soundCaught_ok (s:Tup splitL):r87 (s,())=some ((sndUp s,()),()):=by
 unfold r87 m87
 simp only[lenI_def,cond_and]
 rfl
def lock0:Tup lockL:=([],([],([],(0,(0,(0,(0,(0,(false,(false,(false,(false,(0,(0,(0,(0,(0,(false,([],([],(0,(0,(0,(0,(0,(false,(false,(false,(0,(false,(0,([],([],([],()))))))))))))))))))))))))))))))))))
def asLockT (s:Tup splitL):Tup lockL:=(spImg s,(spPads s,((spMem s).1,((spMem s).2.1,((spCpu s).1,((spCpu s).2.1,((spCpu s).2.2.1,((spCpu s).2.2.2.1,((spCpu s).2.2.2.2.1,((spCpu s).2.2.2.2.2.1,((spCpu s).2.2.2.2.2.2.1,((spCpu s).2.2.2.2.2.2.2.1,
 ((spPic s).1,((spPic s).2.1,((spPic s).2.2.1,((spPic s).2.2.2.1,((spPic s).2.2.2.2.1,((spPic s).2.2.2.2.2.1,((spPic s).2.2.2.2.2.2.1,((spPic s).2.2.2.2.2.2.2.1,
 ((spSnd s).1,((spSnd s).2.1,((spSnd s).2.2.1,((spSnd s).2.2.2.1,((spSnd s).2.2.2.2.1,((spSnd s).2.2.2.2.2.1,((spSnd s).2.2.2.2.2.2.1,((spPad s).1,((spPad s).2.1,(spNmi s,(spSteps s,obsOf s)))))))))))))))))))))))))))))))
def asLock (s:Tup splitL):Tup lockL:=if splitOk s&&(picUp s&&sndUp s)then asLockT s else lock0
theorem implAsLock_ok (s:Tup splitL) (h:splitOkS s):r27 (s,())=some ((asLock s,()),()):=by
 unfold r27 m27 asLock
 refine bind_step (implSplitOk_ok s h) ?_
 cases splitOk s with
 |false=>rfl
 |true=>
  refine bind_step (pictureCaught_ok s) ?_
  cases picUp s with
  |false=>rfl
  |true=>
   refine bind_step (soundCaught_ok s) ?_
   cases sndUp s with
   |false=>rfl
   |true=>exact bind_step (copySplit_ok s h) (bind_step (implObsOf_ok s h) rfl)
theorem mod256 (x:Int):0≤x%256∧x%256≤255:=by omega
theorem implByte_ok (y:PTup i225):r225 y=some (((y.1:Int)%256,()),()):=by
 unfold r225 m225
 rw[bAnd_255]
theorem specByte_ok (y:PTup i215):r215 y=some (((y.1:Int)%256,()),()):=by
 unfold r215 m215
 rw[bAnd_255]
theorem implAddr_ok (y:PTup i109):r109 y=some (((y.1:Int)%65536,()),()):=by
 unfold r109 m109
 rw[bAnd_65535]
theorem specAddr_ok (y:PTup i223):r223 y=some (((y.1:Int)%65536,()),()):=by
 unfold r223 m223
 rw[bAnd_65535]
def flagN (b:Bool):Int:=if b then 1 else 0
theorem flag_ok (y:PTup i60):r60 y=some ((flagN y.1,()),()):=by
 unfold r60 m60 flagN
 obtain ⟨b,_⟩:=y
 cases b<;>rfl
theorem flagN_range (b:Bool):0≤flagN b∧flagN b≤1:=by cases b<;>simp[flagN]
def joinN (lo hi:Int):Int:=lo%256+256*(hi%256)
theorem implJoin_ok (y:PTup i207):r207 y=some ((joinN y.1 y.2.1,()),()):=by
 unfold r207 m207 joinN
 obtain ⟨lo,hi,_⟩:=y
 simp only[implByte_ok,Option.bind_some]
 have h1:=mod256 lo
 have h2:=mod256 hi
 rw[wI_id (x:=256*(hi%256)) (by omega) (by omega),wI_id (by omega) (by omega)]
theorem specJoin_ok (y:PTup i163):r163 y=some ((joinN y.1 y.2.1,()),()):=by
 unfold r163 m163 joinN
 obtain ⟨lo,hi,_⟩:=y
 simp only[specByte_ok,Option.bind_some]
 have h1:=mod256 lo
 have h2:=mod256 hi
 rw[wI_id (x:=256*(hi%256)) (by omega) (by omega),wI_id (by omega) (by omega)]
theorem implSigns_ok (y:PTup i271):r271 y=some ((eqI ((y.1:Int)%256) 0,(ltI 127 ((y.1:Int)%256),())),()):=by
 unfold r271 m271
 simp only[implByte_ok,Option.bind_some]
def addS (a b:Int) (c:Bool):Int:=a%256+b%256+flagN c
theorem implAdd8_ok (y:PTup i269):r269 y=some ((addS y.1 y.2.1 y.2.2.1%256,(ltI 255 (addS y.1 y.2.1 y.2.2.1),())),()):=by
 unfold r269 m269 addS
 obtain ⟨a,b,c,_⟩:=y
 simp only[implByte_ok,flag_ok,Option.bind_some]
 have h1:=mod256 a
 have h2:=mod256 b
 have h3:=flagN_range c
 rw[wI_id (x:=a%256+b%256) (by omega) (by omega),wI_id (x:=a%256+b%256+flagN c) (by omega) (by omega)]
def subS (a b:Int) (c:Bool):Int:=a%256-b%256-1+flagN c
theorem implSub8_ok (y:PTup i270):r270 y=some ((subS y.1 y.2.1 y.2.2.1%256,(leI 0 (subS y.1 y.2.1 y.2.2.1),())),()):=by
 unfold r270 m270 subS
 obtain ⟨a,b,c,_⟩:=y
 simp only[implByte_ok,flag_ok,Option.bind_some]
 have h1:=mod256 a
 have h2:=mod256 b
 have h3:=flagN_range (!c)
 rw[wI_id (x:=a%256-b%256) (by omega) (by omega),wI_id (x:=a%256-b%256-flagN (!c)) (by omega) (by omega),show a%256-b%256-flagN (!c)=a%256-b%256-1+flagN c by cases c<;>simp[flagN]]
theorem ops_cases {n:Int} (h:0≤n∧n≤29):n=0∨n=1∨n=2∨n=3∨n=4∨n=5∨n=6∨n=7∨n=8∨n=9∨n=10∨n=11∨n=12∨n=13∨n=14∨n=15∨n=16∨n=17∨n=18∨n=19∨n=20∨n=21∨n=22∨n=23∨n=24∨n=25∨n=26∨n=27∨n=28∨n=29:=by omega
def opLenN (n:Int):Int:=if 0≤n∧n≤29 then ([1,2,3,3,2,2,2,2,2,2,1,1,1,1,3,3,3,3,3,3,3,1,1,1,1,1,1,1,1,3]:List Int).getD n.toNat 1 else 1
def opCycN (n:Int):Int:=if 0≤n∧n≤29 then ([2,2,4,4,2,2,2,2,2,2,2,2,2,2,4,5,3,3,3,3,6,6,3,4,6,2,2,2,2,4]:List Int).getD n.toNat 2 else 2
def opAccN (n:Int):Int:=if n=2∨n=14∨n=29 then 1 else if n=3∨n=15 then 2 else 0
theorem implOpLen_ok (y:PTup i209):r209 y=some ((opLenN y.1,()),()):=by
 obtain ⟨(n:Int),_⟩:=y
 show r209 (n,())=some ((opLenN n,()),())
 by_cases h:0≤n∧n≤29
 ·rcases ops_cases h with rfl|rfl|rfl|rfl|rfl|rfl|rfl|rfl|rfl|rfl|rfl|rfl|rfl|rfl|rfl|rfl|rfl|rfl|rfl|rfl|rfl|rfl|rfl|rfl|rfl|rfl|rfl|rfl|rfl|rfl<;>rfl
 ·have e: ∀c:Int,0≤c→c≤29→eqI n c=false:=fun c h0 h1=>eqI_f (by omega)
  have e2: ∀a b:Int,0≤a→b≤29→inR a b n=false:=fun a b h0 h1=>by
   cases hh:inR a b n with
   |false=>rfl
   |true=>have:=inR_iff.1 hh;omega
  unfold r209 m209 opLenN
  rw[if_neg h]
  simp[e,e2,within_ok]
theorem specOpLen_ok (y:PTup i257):r257 y=some ((opLenN y.1,()),()):=by
 obtain ⟨(n:Int),_⟩:=y
 show r257 (n,())=some ((opLenN n,()),())
 by_cases h:0≤n∧n≤29
 ·rcases ops_cases h with rfl|rfl|rfl|rfl|rfl|rfl|rfl|rfl|rfl|rfl|rfl|rfl|rfl|rfl|rfl|rfl|rfl|rfl|rfl|rfl|rfl|rfl|rfl|rfl|rfl|rfl|rfl|rfl|rfl|rfl<;>rfl
 ·have e2:inR 0 29 n=false:=by
   cases hh:inR 0 29 n with
   |false=>rfl
   |true=>exact absurd (inR_iff.1 hh) h
  unfold r257 m257 opLenN
  rw[if_neg h]
  simp only[l1In_ok,Option.bind_some,e2,Bool.not_false,cond_true]
theorem implOpCycles_ok (y:PTup i150):r150 y=some ((opCycN y.1,()),()):=by
 obtain ⟨(n:Int),_⟩:=y
 show r150 (n,())=some ((opCycN n,()),())
 by_cases h:0≤n∧n≤29
 ·rcases ops_cases h with rfl|rfl|rfl|rfl|rfl|rfl|rfl|rfl|rfl|rfl|rfl|rfl|rfl|rfl|rfl|rfl|rfl|rfl|rfl|rfl|rfl|rfl|rfl|rfl|rfl|rfl|rfl|rfl|rfl|rfl<;>rfl
 ·have e: ∀c:Int,0≤c→c≤29→eqI n c=false:=fun c h0 h1=>eqI_f (by omega)
  unfold r150 m150 opCycN
  rw[if_neg h]
  simp[e]
theorem implOpAccess_ok (y:PTup i247):r247 y=some ((opAccN y.1,()),()):=by
 obtain ⟨(n:Int),_⟩:=y
 show r247 (n,())=some ((opAccN n,()),())
 by_cases h:0≤n∧n≤29
 ·rcases ops_cases h with rfl|rfl|rfl|rfl|rfl|rfl|rfl|rfl|rfl|rfl|rfl|rfl|rfl|rfl|rfl|rfl|rfl|rfl|rfl|rfl|rfl|rfl|rfl|rfl|rfl|rfl|rfl|rfl|rfl|rfl<;>rfl
 ·have e: ∀c:Int,0≤c→c≤29→eqI n c=false:=fun c h0 h1=>eqI_f (by omega)
  unfold r247 m247 opAccN
  rw[if_neg (by omega),if_neg (by omega)]
  simp[e]
structure MemM where
 ram:List Int
 bank:Int
structure CpuM where
 a:Int
 x:Int
 s:Int
 pc:Int
 z:Bool
 n:Bool
 c:Bool
 i:Bool
structure PpuM where
 T:Int
 ctrl:Int
 scroll:Int
 addr:Int
 pal:Int
 blank:Bool
 table:List Int
 dots:List Int
structure ApuM where
 T:Int
 period:Int
 count:Int
 bit:Int
 len:Int
 asks:Bool
 irq:Bool
structure PadM where
 held:Bool
 shift:Int
def MemM.t (x:MemM):Tup memL:=(x.ram,(x.bank,()))
def CpuM.t (c:CpuM):Tup cpuL:=(c.a,(c.x,(c.s,(c.pc,(c.z,(c.n,(c.c,(c.i,()))))))))
def PpuM.t (p:PpuM):Tup ppuL:=(p.T,(p.ctrl,(p.scroll,(p.addr,(p.pal,(p.blank,(p.table,(p.dots,()))))))))
def ApuM.t (a:ApuM):Tup apuL:=(a.T,(a.period,(a.count,(a.bit,(a.len,(a.asks,(a.irq,())))))))
def PadM.t (x:PadM):Tup padL:=(x.held,(x.shift,()))
def BytesP (l:List Int):Prop:= ∀n,n∈l→0≤n∧n≤255
structure ImgP (f:List (List Int)):Prop where
 banks: ∀b,b∈f→b.length=256∧BytesP b
 lo:1≤f.length
 hi:f.length≤8
structure RamP (x:MemM):Prop where
 len:x.ram.length=512
 bytes:BytesP x.ram
structure MemP (f:List (List Int)) (x:MemM):Prop where
 img:ImgP f
 ram:RamP x
 b0:0≤x.bank
 b1:x.bank< (f.length:Int)
structure CpuP (c:CpuM):Prop where
 a:0≤c.a∧c.a≤255
 x:0≤c.x∧c.x≤255
 s:0≤c.s∧c.s≤255
 pc:0≤c.pc∧c.pc≤65535
theorem allR_iff {lo hi:Int} {l:List Int}:allR lo hi l=true↔ ∀n,n∈l→lo≤n∧n≤hi:=by
 unfold allR
 rw[List.all_eq_true]
 exact ⟨fun h n hn=>inR_iff.1 (h n hn),fun h n hn=>inR_iff.2 (h n hn)⟩
theorem eqI_iff {a b:Int}:eqI a b=true↔a=b:=by rw[eqI_d];simp
theorem leI_iff {a b:Int}:leI a b=true↔a≤b:=by simp[leI]
theorem imageOk_iff {f:List (List Int)}:imageOk f=true↔ImgP f:=by
 unfold imageOk
 rw[Bool.and_eq_true,List.all_eq_true,inR_iff]
 constructor
 ·rintro ⟨h,h1,h2⟩
  refine ⟨fun b hb=> ?_,by omega,by omega⟩
  have:=h b hb
  unfold bankOk at this
  rw[Bool.and_eq_true,eqI_iff,allR_iff]at this
  exact ⟨by omega,this.2⟩
 ·rintro ⟨h,h1,h2⟩
  refine ⟨fun b hb=> ?_,by omega,by omega⟩
  unfold bankOk
  rw[Bool.and_eq_true,eqI_iff,allR_iff]
  exact ⟨by have:=(h b hb).1;omega,(h b hb).2⟩
theorem memOk_iff {f:List (List Int)} {x:MemM}:memOk f x.t=true↔MemP f x:=by
 unfold memOk MemM.t
 simp only[Bool.and_eq_true,imageOk_iff,eqI_iff,allR_iff,inR_iff]
 constructor
 ·rintro ⟨h,h1,h2,h3,h4⟩
  exact ⟨h,⟨by omega,h2⟩,h3,by omega⟩
 ·rintro ⟨h,⟨h1,h2⟩,h3,h4⟩
  exact ⟨h,by omega,h2,h3,by omega⟩
theorem cpuOk_iff {c:CpuM}:cpuOk c.t=true↔CpuP c:=by
 unfold cpuOk CpuM.t
 simp only[Bool.and_eq_true,inR_iff]
 constructor
 ·rintro ⟨h,h1,h2,h3⟩;exact ⟨h,h1,h2,h3⟩
 ·rintro ⟨h,h1,h2,h3⟩;exact ⟨h,h1,h2,h3⟩
theorem ImgP.small {f:List (List Int)} (h:ImgP f):small f:=by
 have key: ∀g:List (List Int),(∀b,b∈g→b.length=256)→bulk g=256*g.length:=by
  intro g
  induction g with
  |nil=>intro _;rfl
  |cons b g ih=>
   intro hb
   simp only[bulk,List.length_cons]
   rw[ih (fun b hg=>hb b (List.mem_cons_of_mem _ hg)),hb b List.mem_cons_self]
   omega
 have hi:=h.hi
 refine ⟨by omega,fun l hl=> ?_,?_⟩
 ·have:=(h.banks l hl).1;omega
 ·rw[key f fun b hb=>(h.banks b hb).1];omega
def setAT (c:CpuM) (v:Int):CpuM:={c with a:=v%256,z:=eqI (v%256) 0,n:=ltI 127 (v%256)}
def setXT (c:CpuM) (v:Int):CpuM:={c with x:=v%256,z:=eqI (v%256) 0,n:=ltI 127 (v%256)}
def wfT (c:CpuM) (f:Int):CpuM:={c with z:=neI (bAnd .i64 f 2) 0,n:=neI (bAnd .i64 f 128) 0,c:=neI (bAnd .i64 f 1) 0,i:=neI (bAnd .i64 f 4) 0}
def flagsT (c:CpuM):Int:=flagN c.c+2*flagN c.z+4*flagN c.i+128*flagN c.n
theorem implSetA_ok (c:CpuM) (v:Int):r268 (c.t,(v,()))=some (((setAT c v).t,()),()):=by
 unfold r268 m268
 simp only[implByte_ok,implSigns_ok,Option.bind_some]
 rfl
theorem implSetX_ok (c:CpuM) (v:Int):r272 (c.t,(v,()))=some (((setXT c v).t,()),()):=by
 unfold r272 m272
 simp only[implByte_ok,implSigns_ok,Option.bind_some]
 rfl
theorem setAT_P {c:CpuM} {v:Int} (h:CpuP c):CpuP (setAT c v):=⟨mod256 v,h.x,h.s,h.pc⟩
theorem setXT_P {c:CpuM} {v:Int} (h:CpuP c):CpuP (setXT c v):=⟨h.a,mod256 v,h.s,h.pc⟩
theorem implWithFlags_ok (c:CpuM) (f:Int):r275 (c.t,(f,()))=some (((wfT c f).t,()),()):=rfl
theorem wfT_P {c:CpuM} {f:Int} (h:CpuP c):CpuP (wfT c f):=⟨h.a,h.x,h.s,h.pc⟩
theorem implFlags_ok (c:CpuM):r246 (c.t,())=some ((flagsT c,()),()):=by
 unfold r246 m246 flagsT
 simp only[flag_ok,Option.bind_some,CpuM.t]
 obtain ⟨a,x,s,pc,z,n,c,i⟩:=c
 simp only
 cases z<;>cases n<;>cases c<;>cases i<;>rfl
def rgT (a:Int):Int×Int:=
 let b:=a%65536
 if b<8192 then (1,b%512)else if b<16384 then (2,b%8)else if b<16388 then (3,b%4)else if b=16406 then (4,0)else if b<32768 then (7,0)else if b<49152 then (5,b%256)else (6,b%256)
theorem tmod_nn {a b:Int} (h:0≤a):Int.tmod a b=a%b:=Int.tmod_eq_emod_of_nonneg h
theorem implRegion_a (a:Int):r42 (a,())=some (((rgT a).1,((rgT a).2,())),()):=by
 unfold r42 m42 rgT
 simp only[implAddr_ok,Option.bind_some]
 have h0:0≤a%65536:=by omega
 generalize a%65536=b at*
 rw[tmod_nn h0,tmod_nn h0,tmod_nn h0,tmod_nn h0]
 by_cases h1:b<8192
 ·rw[ltI_t h1,if_pos h1];rfl
 rw[ltI_f h1,if_neg h1,cond_false]
 by_cases h1:b<16384
 ·rw[ltI_t h1,if_pos h1];rfl
 rw[ltI_f h1,if_neg h1,cond_false]
 by_cases h1:b<16388
 ·rw[ltI_t h1,if_pos h1];rfl
 rw[ltI_f h1,if_neg h1,cond_false]
 by_cases h1:b=16406
 ·rw[eqI_t h1,if_pos h1];rfl
 rw[eqI_f h1,if_neg h1,cond_false]
 by_cases h1:b<32768
 ·rw[ltI_t h1,if_pos h1];rfl
 rw[ltI_f h1,if_neg h1,cond_false]
 by_cases h1:b<49152
 ·rw[ltI_t h1,if_pos h1];rfl
 rw[ltI_f h1,if_neg h1,cond_false]
theorem implRegion_ok (y:PTup i42):r42 y=some (((rgT y.1).1,((rgT y.1).2,())),()):=implRegion_a y.1
theorem specRegion_a (a:Int):r176 (a,())=some (((rgT a).1,((rgT a).2,())),()):=by
 unfold r176 m176 rgT
 simp only[specAddr_ok,Option.bind_some]
 have h0:0≤a%65536:=by omega
 generalize a%65536=b at*
 rw[tmod_nn h0,tmod_nn h0,tmod_nn h0,tmod_nn h0]
 by_cases h1:b<8192
 ·rw[ltI_t h1,if_pos h1];rfl
 rw[ltI_f h1,if_neg h1,cond_false]
 by_cases h1:b<16384
 ·rw[ltI_t h1,if_pos h1];rfl
 rw[ltI_f h1,if_neg h1,cond_false]
 by_cases h1:b<16388
 ·rw[ltI_t h1,if_pos h1];rfl
 rw[ltI_f h1,if_neg h1,cond_false]
 by_cases h1:b=16406
 ·rw[eqI_t h1,if_pos h1];rfl
 rw[eqI_f h1,if_neg h1,cond_false]
 by_cases h1:b<32768
 ·rw[ltI_t h1,if_pos h1];rfl
 rw[ltI_f h1,if_neg h1,cond_false]
 by_cases h1:b<49152
 ·rw[ltI_t h1,if_pos h1];rfl
 rw[ltI_f h1,if_neg h1,cond_false]
theorem specRegion_ok (y:PTup i176):r176 y=some (((rgT y.1).1,((rgT y.1).2,())),()):=specRegion_a y.1
theorem rgT_cases (a:Int):((rgT a).1=1∧0≤(rgT a).2∧(rgT a).2<512)∨((rgT a).1=2∧0≤(rgT a).2∧(rgT a).2<8)∨((rgT a).1=3∧0≤(rgT a).2∧(rgT a).2<4)∨((rgT a).1=4∧(rgT a).2=0)∨((rgT a).1=5∧0≤(rgT a).2∧(rgT a).2<256)∨((rgT a).1=6∧0≤(rgT a).2∧(rgT a).2<256)∨((rgT a).1=7∧(rgT a).2=0):=by
 unfold rgT
 simp only
 split
 ·left;exact ⟨rfl,by show 0≤a%65536%512;omega,by show a%65536%512<512;omega⟩
 right
 split
 ·left;exact ⟨rfl,by show 0≤a%65536%8;omega,by show a%65536%8<8;omega⟩
 right
 split
 ·left;exact ⟨rfl,by show 0≤a%65536%4;omega,by show a%65536%4<4;omega⟩
 right
 split
 ·left;exact ⟨rfl,rfl⟩
 right
 split
 ·right;right;exact ⟨rfl,rfl⟩
 split
 ·left;exact ⟨rfl,by show 0≤a%65536%256;omega,by show a%65536%256<256;omega⟩
 ·right;left;exact ⟨rfl,by show 0≤a%65536%256;omega,by show a%65536%256<256;omega⟩
def peekT (f:List (List Int)) (x:MemM) (a:Int):Int:=
 if (rgT a).1=1 then rdE .i x.ram (rgT a).2 else if (rgT a).1=5 then rdI (rdE .n f x.bank) (rgT a).2 else if (rgT a).1=6 then rdI (rdE .n f ((f.length:Int)-1)) (rgT a).2 else 0
theorem rdE_mem {e:E} {l:List e.C} {i:Int} (h0:0≤i) (h1:i< (l.length:Int)):rdE e l i∈l:=by
 have:i.toNat<l.length:=by omega
 rw[show rdE e l i=l[i.toNat] by simp[rdE,List.getD,this]]
 exact List.getElem_mem _
theorem rdI_mem {l:List Int} {i:Int} (h0:0≤i) (h1:i< (l.length:Int)):rdI l i∈l:=rdE_mem (e:= .i) h0 h1
theorem peekT_byte {f:List (List Int)} {x:MemM} (h:MemP f x) (a:Int):0≤peekT f x a∧peekT f x a≤255:=by
 have hf:=h.img.lo
 have hb0:=h.b0
 have hb1:=h.b1
 have hl:=h.ram.len
 unfold peekT
 have z:(0:Int)≤0∧(0:Int)≤255:=by decide
 rcases rgT_cases a with ⟨e,h0,h1⟩| ⟨e,h0,h1⟩| ⟨e,h0,h1⟩| ⟨e,h0⟩| ⟨e,h0,h1⟩| ⟨e,h0,h1⟩| ⟨e,h0⟩<;>rw[e]
 ·exact h.ram.bytes _ (rdE_mem (e:= .i) h0 (by omega))
 ·exact z
 ·exact z
 ·exact z
 ·have hm:=h.img.banks _ (rdE_mem (e:= .n) hb0 hb1)
  exact hm.2 _ (rdI_mem h0 (by have:=hm.1;omega))
 ·have hm:=h.img.banks _ (rdE_mem (e:= .n) (l:=f) (i:=(f.length:Int)-1) (by omega) (by omega))
  exact hm.2 _ (rdI_mem h0 (by have:=hm.1;omega))
 ·exact z
theorem implPeek1_ok (f:List (List Int)) (x:MemM) (a:Int) (h:MemP f x):r175 ((f,()),(x.t,(a,())))=some ((peekT f x a,()),()):=by
 have hf:=h.img.lo
 have hg:=h.img.hi
 have hb0:=h.b0
 have hb1:=h.b1
 have hl:=h.ram.len
 unfold r175 m175 peekT
 simp only[implRegion_ok,Option.bind_some,lenI_def,MemM.t]
 rw[wI_id (x:=(f.length:Int)-1) (by omega) (by omega)]
 rcases rgT_cases a with ⟨e,h0,h1⟩| ⟨e,h0,h1⟩| ⟨e,h0,h1⟩| ⟨e,h0⟩| ⟨e,h0,h1⟩| ⟨e,h0,h1⟩| ⟨e,h0⟩<;>rw[e]
 ·rw[leI_t h0,ltI_t (by omega)];rfl
 ·rfl
 ·rfl
 ·rfl
 ·have hm:=(h.img.banks _ (rdE_mem (e:= .n) hb0 hb1)).1
  rw[leI_t hb0,ltI_t hb1,leI_t h0,ltI_t (show (rgT a).2< ((rdE .n f x.bank:List Int).length:Int) by omega)];rfl
 ·have hm:=(h.img.banks _ (rdE_mem (e:= .n) (l:=f) (i:=(f.length:Int)-1) (by omega) (by omega))).1
  rw[leI_t (show 0≤(f.length:Int)-1 by omega),ltI_t (show (f.length:Int)-1< (f.length:Int) by omega),leI_t h0,ltI_t (show (rgT a).2< ((rdE .n f ((f.length:Int)-1):List Int).length:Int) by omega)];rfl
 ·rfl
theorem specPeek1_ok (f:List (List Int)) (x:MemM) (a:Int) (h:MemP f x):r180 ((f,()),(x.t,(a,())))=some ((peekT f x a,()),()):=by
 have hf:=h.img.lo
 have hg:=h.img.hi
 have hb0:=h.b0
 have hb1:=h.b1
 have hl:=h.ram.len
 unfold r180 m180 peekT
 simp only[specRegion_ok,Option.bind_some,lenI_def,MemM.t]
 rw[wI_id (x:=(f.length:Int)-1) (by omega) (by omega)]
 rcases rgT_cases a with ⟨e,h0,h1⟩| ⟨e,h0,h1⟩| ⟨e,h0,h1⟩| ⟨e,h0⟩| ⟨e,h0,h1⟩| ⟨e,h0,h1⟩| ⟨e,h0⟩<;>rw[e]
 ·rw[leI_t h0,ltI_t (by omega)];rfl
 ·rfl
 ·rfl
 ·rfl
 ·have hm:=(h.img.banks _ (rdE_mem (e:= .n) hb0 hb1)).1
  rw[leI_t hb0,ltI_t hb1,leI_t h0,ltI_t (show (rgT a).2< ((rdE .n f x.bank:List Int).length:Int) by omega)];rfl
 ·have hm:=(h.img.banks _ (rdE_mem (e:= .n) (l:=f) (i:=(f.length:Int)-1) (by omega) (by omega))).1
  rw[leI_t (show 0≤(f.length:Int)-1 by omega),ltI_t (show (f.length:Int)-1< (f.length:Int) by omega),leI_t h0,ltI_t (show (rgT a).2< ((rdE .n f ((f.length:Int)-1):List Int).length:Int) by omega)];rfl
 ·rfl
theorem implMemOk_t (f:List (List Int)) (x:MemM) (h:MemP f x):r64 ((f,()),(x.t,()))=some ((true,()),()):=by
 have:=implMemOk_ok f x.t h.img.small (by show x.ram.length≤_;have:=h.ram.len;omega)
 rw[memOk_iff.2 h]at this
 exact this
theorem specMemOk_t (f:List (List Int)) (x:MemM) (h:MemP f x):r111 ((f,()),(x.t,()))=some ((true,()),()):=by
 have:=specMemOk_ok f x.t h.img.small (by show x.ram.length≤_;have:=h.ram.len;omega)
 rw[memOk_iff.2 h]at this
 exact this
theorem implPeek_ok (f:List (List Int)) (x:MemM) (a:Int) (h:MemP f x):r208 ((f,()),(x.t,(a,())))=some ((peekT f x a,()),()):=by
 unfold r208 m208
 exact bind_step (implMemOk_t f x h) (bind_step (implPeek1_ok f x a h) rfl)
theorem specPeek_ok (f:List (List Int)) (x:MemM) (a:Int) (h:MemP f x):r164 ((f,()),(x.t,(a,())))=some ((peekT f x a,()),()):=by
 unfold r164 m164
 exact bind_step (specMemOk_t f x h) (bind_step (specPeek1_ok f x a h) rfl)
def pokeT (f:List (List Int)) (x:MemM) (a v:Int):MemM:=
 if (rgT a).1=1 then {x with ram:=x.ram.set (rgT a).2.toNat (v%256)}else if (rgT a).1=5∨(rgT a).1=6 then {x with bank:=(v%256)% (f.length:Int)}else x
theorem BytesP.set {l:List Int} (h:BytesP l) (i:Nat) {v:Int} (hv:0≤v∧v≤255):BytesP (l.set i v):=fun n hn=>by
 rcases List.mem_or_eq_of_mem_set hn with h1|h1
 ·exact h n h1
 ·rw[h1];exact hv
theorem pokeT_P {f:List (List Int)} {x:MemM} (h:MemP f x) (a v:Int):MemP f (pokeT f x a v):=by
 have hf:=h.img.lo
 unfold pokeT
 split
 ·exact ⟨h.img,⟨by simp[h.ram.len],h.ram.bytes.set _ (mod256 v)⟩,h.b0,h.b1⟩
 split
 ·exact ⟨h.img,⟨h.ram.len,h.ram.bytes⟩,Int.emod_nonneg _ (by omega),Int.emod_lt_of_pos _ (by omega)⟩
 ·exact h
theorem implPoke_ok (f:List (List Int)) (x:MemM) (a v:Int) (h:MemP f x):r187 (x.t,((f,()),(a,(v,()))))=some ((),((pokeT f x a v).t,())):=by
 have hf:=h.img.lo
 have hl:=h.ram.len
 unfold r187 m187 pokeT
 simp only[implRegion_ok,implByte_ok,Option.bind_some,lenI_def,MemM.t]
 have hv:=mod256 v
 rw[tmod_nn hv.1,neI_t (show (f.length:Int)≠0 by omega)]
 rcases rgT_cases a with ⟨e,h0,h1⟩| ⟨e,h0,h1⟩| ⟨e,h0,h1⟩| ⟨e,h0⟩| ⟨e,h0,h1⟩| ⟨e,h0,h1⟩| ⟨e,h0⟩<;>rw[e]
 ·rw[leI_t h0,ltI_t (by omega)];rfl
 all_goals rfl
def pushM (x:MemM) (c:CpuM) (v:Int):MemM:={x with ram:=x.ram.set (256+c.s%256).toNat (v%256)}
def pushC (c:CpuM):CpuM:={c with s:=(c.s-1)%256}
def pullC (c:CpuM):CpuM:={c with s:=(c.s+1)%256}
def pullV (x:MemM) (c:CpuM):Int:=rdE .i x.ram (256+(c.s+1)%256)
theorem pushM_P {x:MemM} (h:RamP x) (c:CpuM) (v:Int):RamP (pushM x c v):=⟨by simp[pushM,h.len],h.bytes.set _ (mod256 v)⟩
theorem pushC_P {c:CpuM} (h:CpuP c):CpuP (pushC c):=⟨h.a,h.x,mod256 _,h.pc⟩
theorem pullC_P {c:CpuM} (h:CpuP c):CpuP (pullC c):=⟨h.a,h.x,mod256 _,h.pc⟩
theorem implPush_ok (x:MemM) (c:CpuM) (v:Int) (h:RamP x) (hc:CpuP c):r245 (x.t,(c.t,(v,())))=some ((),((pushM x c v).t,((pushC c).t,()))):=by
 have hl:=h.len
 have hs:=hc.s
 unfold r245 m245 pushM pushC
 simp only[implByte_ok,Option.bind_some,lenI_def,MemM.t,CpuM.t]
 have h1:=mod256 c.s
 rw[neI_f (by omega),wI_id (x:=256+c.s%256) (by omega) (by omega),leI_t (by omega),ltI_t (by omega),wI_id (x:=c.s-1) (by omega) (by omega)]
 rfl
theorem implPull_ok (x:MemM) (c:CpuM) (h:RamP x) (hc:CpuP c):r274 (x.t,(c.t,()))=some ((pullV x c,()),(x.t,((pullC c).t,()))):=by
 have hl:=h.len
 have hs:=hc.s
 unfold r274 m274 pullV pullC
 simp only[implByte_ok,Option.bind_some,lenI_def,MemM.t,CpuM.t]
 rw[wI_id (x:=c.s+1) (by omega) (by omega)]
 have h1:=mod256 (c.s+1)
 rw[neI_f (by omega),wI_id (x:=256+(c.s+1)%256) (by omega) (by omega),leI_t (by omega),ltI_t (by omega)]
 rfl

end Go.Proofs.YtgpifihakjdfeaaGreat.Plain
