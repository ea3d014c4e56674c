/- Plain laws of the printed functions: Cp, Obs, Lock, Ok, Ok2, Ok3, Copies, Bytes, Cpu. No condition beyond those that each lemma states. -/
import Derived.Test.YtmlahgmhbdpkjaaGreatDoorX
import Derived.Test.YtmlahgmhbdpkjaaGreatDoorFn1
set_option linter.unusedVariables false
set_option linter.unusedSimpArgs false
namespace Go.Proofs.YtmlahgmhbdpkjaaGreatDoor.Plain
open Go Go.Tev
def bulk:List (List Int)→Nat| []=>0|l::f=>l.length+bulk f
def small (f:List (List Int)):Prop:=f.length≤4398046511104∧(∀l,l∈f→l.length≤4398046511104)∧bulk f≤4398046511104
def left (n:Int) (k:Nat):Int:=if n< (k:Int)then-1 else n-(k:Int)
def beg {α:Type} [DecidableEq α] (a b:List α):Bool:=decide (a.length≤b.length∧a=b.take a.length)
theorem Zk5 (a b:List Int) (h1:a.length≤4398046511104) (hab:a.length=b.length): ∀(k i:Nat),i≤a.length→a.length-i<k→
  n102_0 k (a,(b,((a.length:Int),()))) () ((i:Int),())=if a.drop i=b.drop i then some (Sum.inl ((a.length:Int),()),())else some (Sum.inr (false,()),())
 |0,_,_,h=>absurd h (by omega)
 |k+1,i,hi,hk=>by
  unfold n102_0 w102_0
  simp only[Zab]
  by_cases h:i<a.length
  ·have hb:i<b.length:=by omega
   rw[Zaj (by omega),Zao (by omega),Zaj (by omega),ZaA .i a i h,ZaA .i b i hb,ZaW (by omega)]
   simp only[cond_true]
   rw[ZaY h,ZaY hb]
   by_cases hx:a[i]=b[i]
   ·rw[ZdJ hx,cond_false,Zk5 a b h1 hab k (i+1) (by omega) (by omega)]
    simp only[List.cons.injEq,hx,true_and]
   ·rw[Zdh hx,cond_true]
    simp only[List.cons.injEq,hx,false_and,if_false]
  ·have:i=a.length:=by omega
   subst this
   rw[ZaB (by omega)]
   simp[hab]
theorem ZeL (a b:List Int) (h1:a.length≤4398046511104):r102 (a,(b,()))=some ((decide (a=b),()),()):=by
 unfold r102 m102 L102_0
 simp only[Zab]
 by_cases h:a.length=b.length
 ·have:=Zk5 a b h1 h fuel 0 (by omega) (by have:=Zat;omega)
  simp only[Int.natCast_zero,List.drop_zero]at this
  rw[ZdJ (by omega),cond_false,this]
  by_cases e:a=b<;>simp[e,Zai]
 ·rw[Zdh (by omega),cond_true]
  rw[show decide (a=b)=false from decide_eq_false (fun e=>h (by rw[e]))]
theorem Zjc (a b:List (List Int)) (h1:small a) (hab:a.length=b.length): ∀(k i:Nat),i≤a.length→a.length-i<k→
  n175_0 r176 k (b,((),(a,((a.length:Int),())))) () ((i:Int),())=if a.drop i=b.drop i then some (Sum.inl ((a.length:Int),()),())else some (Sum.inr (false,()),())
 |0,_,_,h=>absurd h (by omega)
 |k+1,i,hi,hk=>by
  unfold n175_0 w175_0
  simp only[Zab]
  have:=h1.1
  by_cases h:i<a.length
  ·have hb:i<b.length:=by omega
   rw[Zaj (by omega),Zao (by omega),Zaj (by omega),ZaA .n a i h,ZaA .n b i hb,ZaW (by omega)]
   rw[show r176 (a[i],(b[i],()))=some ((decide (a[i]=b[i]),()),()) by
    unfold r176 m176
    rw[ZeL _ _ (h1.2.1 _ (List.getElem_mem h))]
    rfl]
   simp only[cond_true,Option.bind_some]
   rw[ZaY h,ZaY hb]
   by_cases hx:a[i]=b[i]
   ·rw[show (!decide (a[i]=b[i]))=false by simp[hx],cond_false,Zjc a b h1 hab k (i+1) (by omega) (by omega)]
    simp only[List.cons.injEq,hx,true_and]
   ·rw[show (!decide (a[i]=b[i]))=true by simpa using hx,cond_true]
    simp only[List.cons.injEq,hx,false_and,if_false]
  ·have:i=a.length:=by omega
   subst this
   rw[ZaB (by omega)]
   simp[hab]
theorem Zrq (a b:List (List Int)) (h1:small a):r175 (a,(b,((),())))=some ((decide (a=b),()),()):=by
 unfold r175 m175 L175_0
 simp only[Zab]
 have:=h1.1
 by_cases h:a.length=b.length
 ·have:=Zjc a b h1 h fuel 0 (by omega) (by have:=Zat;omega)
  simp only[Int.natCast_zero,List.drop_zero]at this
  rw[ZdJ (by omega),cond_false,this]
  by_cases e:a=b<;>simp[e,Zai]
 ·rw[Zdh (by omega),cond_true]
  rw[show decide (a=b)=false from decide_eq_false (fun e=>h (by rw[e]))]
abbrev obsL:List LT:=[.sl false .n, .sl false .i, .sl false .i]
def Ztj (a:Tup obsL):Prop:=small a.1∧a.2.1.length≤4398046511104∧a.2.2.1.length≤4398046511104
def ZjH (a b:Tup obsL):Bool:=beg a.1 b.1&&(beg a.2.1 b.2.1&&beg a.2.2.1 b.2.2.1)
def Zqz (a b:Tup obsL):Bool:=decide (a.1=b.1)&&(decide (a.2.1=b.2.1)&&decide (a.2.2.1=b.2.2.1))
theorem Zjw (a b:Tup obsL) (ha:Ztj a):r142 (a,(b,()))=some ((Zqz a b,()),()):=by
 unfold r142 m142
 obtain ⟨h1,h2,h3⟩:=ha
 rw[Zrq _ _ h1]
 simp only[Option.bind_some,Zqz]
 by_cases e1:a.1=b.1
 ·rw[decide_eq_true e1,cond_true,ZeL _ _ h2]
  simp only[Option.bind_some]
  by_cases e2:a.2.1=b.2.1
  ·rw[decide_eq_true e2,cond_true,ZeL _ _ h3]
   simp
  ·rw[decide_eq_false e2]
   simp
 ·rw[decide_eq_false e1]
  simp
theorem ZlK {α:Type} [DecidableEq α] (a b:List α) (h:a.length≤b.length):decide (a=b.take a.length)=beg a b:=by
 unfold beg
 congr 1
 rw[eq_iff_iff]
 exact ⟨fun e=>⟨h,e⟩,fun e=>e.2⟩
theorem ZlY (a b:Tup obsL) (ha:Ztj a):r103 (a,(b,()))=some ((ZjH a b,()),()):=by
 unfold r103 m103
 simp only[Zab,Int.toNat_natCast]
 by_cases h1:b.1.length<a.1.length
 ·rw[Zaj (by omega),cond_true]
  simp[ZjH,show beg a.1 b.1=false from decide_eq_false (fun hh=>by omega)]
 rw[ZaB (by omega),cond_false]
 by_cases h2:b.2.1.length<a.2.1.length
 ·rw[Zaj (by omega),cond_true]
  simp[ZjH,show beg a.2.1 b.2.1=false from decide_eq_false (fun hh=>by omega)]
 rw[ZaB (by omega),cond_false]
 by_cases h3:b.2.2.1.length<a.2.2.1.length
 ·rw[Zaj (by omega),cond_true]
  simp[ZjH,show beg a.2.2.1 b.2.2.1=false from decide_eq_false (fun hh=>by omega)]
 rw[ZaB (by omega),cond_false,Zao (by omega),Zao (by omega),Zao (by omega)]
 simp only[cond_true]
 rw[Zjw _ _ ha]
 simp only[Option.bind_some,Zqz,ZjH]
 rw[ZlK _ _ (by omega),ZlK _ _ (by omega),ZlK _ _ (by omega)]
theorem ZqA (a:Tup obsL):Zqz a a=true:=by simp[Zqz]
abbrev memL:List LT:=[.sl false .i, .int .i64]
abbrev cpuL:List LT:=[.int .i64, .int .i64, .int .i64, .int .i64, .bool, .bool, .bool, .bool]
abbrev ppuL:List LT:=[.int .i64, .int .i64, .int .i64, .int .i64, .int .i64, .bool, .sl false .i, .sl false .i]
abbrev apuL:List LT:=[.int .i64, .int .i64, .int .i64, .int .i64, .int .i64, .bool, .bool]
abbrev padL:List LT:=[.bool, .int .i64]
abbrev ZhN:List LT:= .sl false .n:: .sl false .i::(memL++(cpuL++(ppuL++(apuL++(padL++(.bool:: .int .i64::obsL))))))
def Zin (a:Tup ppuL):Prop:=a.2.2.2.2.2.2.1.length≤4398046511104∧a.2.2.2.2.2.2.2.1.length≤4398046511104
section
variable (a:Tup ZhN)
abbrev ZvT:List (List Int):=a.1
abbrev Zvy:List Int:=a.2.1
abbrev Zl4:Tup memL:=(a.2.2.1,(a.2.2.2.1,()))
abbrev Zqr:Tup cpuL:=(a.2.2.2.2.1,(a.2.2.2.2.2.1,(a.2.2.2.2.2.2.1,(a.2.2.2.2.2.2.2.1,(a.2.2.2.2.2.2.2.2.1,(a.2.2.2.2.2.2.2.2.2.1,(a.2.2.2.2.2.2.2.2.2.2.1,(a.2.2.2.2.2.2.2.2.2.2.2.1,()))))))))
abbrev Zl5:Tup ppuL:=(a.2.2.2.2.2.2.2.2.2.2.2.2.1,(a.2.2.2.2.2.2.2.2.2.2.2.2.2.1,(a.2.2.2.2.2.2.2.2.2.2.2.2.2.2.1,(a.2.2.2.2.2.2.2.2.2.2.2.2.2.2.2.1,(a.2.2.2.2.2.2.2.2.2.2.2.2.2.2.2.2.1,(a.2.2.2.2.2.2.2.2.2.2.2.2.2.2.2.2.2.1,(a.2.2.2.2.2.2.2.2.2.2.2.2.2.2.2.2.2.2.1,(a.2.2.2.2.2.2.2.2.2.2.2.2.2.2.2.2.2.2.2.1,()))))))))
abbrev ZuB:Tup apuL:=(a.2.2.2.2.2.2.2.2.2.2.2.2.2.2.2.2.2.2.2.2.1,(a.2.2.2.2.2.2.2.2.2.2.2.2.2.2.2.2.2.2.2.2.2.1,(a.2.2.2.2.2.2.2.2.2.2.2.2.2.2.2.2.2.2.2.2.2.2.1,(a.2.2.2.2.2.2.2.2.2.2.2.2.2.2.2.2.2.2.2.2.2.2.2.1,(a.2.2.2.2.2.2.2.2.2.2.2.2.2.2.2.2.2.2.2.2.2.2.2.2.1,(a.2.2.2.2.2.2.2.2.2.2.2.2.2.2.2.2.2.2.2.2.2.2.2.2.2.1,(a.2.2.2.2.2.2.2.2.2.2.2.2.2.2.2.2.2.2.2.2.2.2.2.2.2.2.1,())))))))
abbrev Zqs:Tup padL:=(a.2.2.2.2.2.2.2.2.2.2.2.2.2.2.2.2.2.2.2.2.2.2.2.2.2.2.2.1,(a.2.2.2.2.2.2.2.2.2.2.2.2.2.2.2.2.2.2.2.2.2.2.2.2.2.2.2.2.1,()))
abbrev ZhK:Tup obsL:=a.2.2.2.2.2.2.2.2.2.2.2.2.2.2.2.2.2.2.2.2.2.2.2.2.2.2.2.2.2.2.2
end
def ZnX (a b:Tup cpuL):Bool:=eqI a.1 b.1&&(eqI a.2.1 b.2.1&&(eqI a.2.2.1 b.2.2.1&&(eqI a.2.2.2.1 b.2.2.2.1&&((a.2.2.2.2.1==b.2.2.2.2.1)&&((a.2.2.2.2.2.1==b.2.2.2.2.2.1)&&((a.2.2.2.2.2.2.1==b.2.2.2.2.2.2.1)&&((a.2.2.2.2.2.2.2.1==b.2.2.2.2.2.2.2.1)&&true)))))))
def Zt7 (a b:Tup apuL):Bool:=eqI a.1 b.1&&(eqI a.2.1 b.2.1&&(eqI a.2.2.1 b.2.2.1&&(eqI a.2.2.2.1 b.2.2.2.1&&(eqI a.2.2.2.2.1 b.2.2.2.2.1&&((a.2.2.2.2.2.1==b.2.2.2.2.2.1)&&((a.2.2.2.2.2.2.1==b.2.2.2.2.2.2.1)&&true))))))
def Zot (a b:Tup padL):Bool:=(a.1==b.1)&&(eqI a.2.1 b.2.1&&true)
def Znb (a b:Tup memL):Bool:=eqI a.2.1 b.2.1&&decide (a.1=b.1)
def Ztp (a b:Tup ppuL):Bool:=eqI a.1 b.1&&(eqI a.2.1 b.2.1&&(eqI a.2.2.1 b.2.2.1&&(eqI a.2.2.2.1 b.2.2.2.1&&(eqI a.2.2.2.2.1 b.2.2.2.2.1&&((a.2.2.2.2.2.1==b.2.2.2.2.2.1)&&(decide (a.2.2.2.2.2.2.1=b.2.2.2.2.2.2.1)&&decide (a.2.2.2.2.2.2.2.1=b.2.2.2.2.2.2.2.1)))))))
def Zfx (a:Tup ZhN):Prop:=small a.1∧a.2.1.length≤4398046511104∧a.2.2.1.length≤4398046511104∧Zin (Zl5 a)∧Ztj (ZhK a)
theorem Zln (a b:Tup memL) (h:a.1.length≤4398046511104):r101 (a,(b,()))=some ((Znb a b,()),()):=by
 unfold r101 m101
 rw[ZeL _ _ h]
 simp only[Option.bind_some,ZaF]
 rfl
theorem ZqI (a b:Tup ppuL) (h:Zin a):r144 (a,(b,()))=some ((Ztp a b,()),()):=by
 unfold r144 m144
 rw[ZeL _ _ h.1]
 rw[show r102 (a.2.2.2.2.2.2.2.1,b.2.2.2.2.2.2.2)=some ((decide (a.2.2.2.2.2.2.2.1=b.2.2.2.2.2.2.2.1),()),())from ZeL _ _ h.2]
 simp only[Option.bind_some,ZaF]
 rfl
def Zpa (a b:Tup ZhN):Bool:=
 ZnX (Zqr a) (Zqr b)&&(Zt7 (ZuB a) (ZuB b)&&(Zot (Zqs a) (Zqs b)&&((a.2.2.2.2.2.2.2.2.2.2.2.2.2.2.2.2.2.2.2.2.2.2.2.2.2.2.2.2.2.1==b.2.2.2.2.2.2.2.2.2.2.2.2.2.2.2.2.2.2.2.2.2.2.2.2.2.2.2.2.2.1)&&
  (eqI a.2.2.2.2.2.2.2.2.2.2.2.2.2.2.2.2.2.2.2.2.2.2.2.2.2.2.2.2.2.2.1 b.2.2.2.2.2.2.2.2.2.2.2.2.2.2.2.2.2.2.2.2.2.2.2.2.2.2.2.2.2.2.1&&(Znb (Zl4 a) (Zl4 b)&&(Ztp (Zl5 a) (Zl5 b)&&Zqz (ZhK a) (ZhK b)))))))
theorem Zjr (a b:Tup ZhN) (h:Zfx a):r105 (a,(b,()))=some ((Zpa a b,()),()):=by
 unfold r105 m105
 obtain ⟨_,_,h3,h4,h5⟩:=h
 simp only[Zln (Zl4 a) (Zl4 b) h3,ZqI (Zl5 a) (Zl5 b) h4,Zjw (ZhK a) (ZhK b) h5,Option.bind_some,ZaF]
 rfl
def inR (lo hi n:Int):Bool:=leI lo n&&leI n hi
def allR (lo hi:Int) (l:List Int):Bool:=l.all (inR lo hi)
theorem Zbp {lo hi n:Int}:inR lo hi n=true↔lo≤n∧n≤hi:=by simp[inR,leI]
theorem Zbw (y:PTup i52):r52 y=some ((inR y.2.1 y.2.2.1 y.1,()),()):=by
 unfold r52 m52
 simp only[ZaF]
 rfl
theorem ZbH (y:PTup i111):r111 y=some ((inR y.2.1 y.2.2.1 y.1,()),()):=by
 unfold r111 m111
 simp only[ZaF]
 rfl
theorem ZcT (y:PTup i50):r50 y=some ((inR 0 255 y.1,()),()):=by
 unfold r50 m50
 simp only[Zbw,Option.bind_some]
theorem Zcq (y:PTup i121):r121 y=some ((inR 0 255 y.1,()),()):=by
 unfold r121 m121
 simp only[ZbH,Option.bind_some]
theorem Zg3 (y:PTup i51):r51 y=some ((inR 0 20000 y.1,()),()):=by
 unfold r51 m51
 simp only[Zbw,Option.bind_some]
theorem ZfO (l:List Int) (hl:l.length≤4611686018427387904):r93 (l,())=some ((allR 0 255 l,()),()):=by
 have key:=ZaL (fun k i=>n93_0 r50 k (l,((l.length:Int),())) () ((i:Int),())) l (inR 0 255) (Sum.inl ((l.length:Int),()),()) (Sum.inr (false,()),())
  (fun k i h hq=>by
   simp only[n93_0,w93_0,Zab]
   rw[Zaj (by omega),Zao (by omega),ZaA .i l i h,ZcT,ZaW (by omega)]
   simp only[cond_true,Option.bind_some,hq,Bool.not_true,cond_false])
  (fun k i h hq=>by
   simp only[n93_0,w93_0,Zab]
   rw[Zaj (by omega),Zao (by omega),ZaA .i l i h,ZcT]
   simp only[cond_true,Option.bind_some,hq,Bool.not_false])
  (fun k=>by
   simp only[n93_0,w93_0,Zab]
   rw[ZaB (by omega)];rfl) fuel 0 (by omega) (by have:=Zat;omega)
 unfold r93 m93 L93_0
 simp only[Zab]
 simp only[Int.natCast_zero,List.drop_zero]at key
 rw[key]
 unfold allR
 cases l.all (inR 0 255)<;>rfl
theorem Zi8 (l:List Int) (hl:l.length≤4611686018427387904):r138 (l,())=some ((allR 0 63 l,()),()):=by
 have key:=ZaL (fun k i=>n138_0 r52 k (l,((l.length:Int),())) () ((i:Int),())) l (inR 0 63) (Sum.inl ((l.length:Int),()),()) (Sum.inr (false,()),())
  (fun k i h hq=>by
   simp only[n138_0,w138_0,Zab]
   rw[Zaj (by omega),Zao (by omega),ZaA .i l i h,Zbw,ZaW (by omega)]
   simp only[cond_true,Option.bind_some,hq,Bool.not_true,cond_false])
  (fun k i h hq=>by
   simp only[n138_0,w138_0,Zab]
   rw[Zaj (by omega),Zao (by omega),ZaA .i l i h,Zbw]
   simp only[cond_true,Option.bind_some,hq,Bool.not_false])
  (fun k=>by
   simp only[n138_0,w138_0,Zab]
   rw[ZaB (by omega)];rfl) fuel 0 (by omega) (by have:=Zat;omega)
 unfold r138 m138 L138_0
 simp only[Zab]
 simp only[Int.natCast_zero,List.drop_zero]at key
 rw[key]
 unfold allR
 cases l.all (inR 0 63)<;>rfl
def Zfd (l:List Int):Bool:=leI (l.length:Int) 20&&allR 0 255 l
theorem ZeQ (l:List Int) (hl:l.length≤4611686018427387904):r46 (l,())=some ((Zfd l,()),()):=by
 unfold r46 m46
 simp only[ZfO l hl,Option.bind_some,Zab,ZaF]
 rfl
theorem Zmn (l:List Int) (hl:l.length≤4611686018427387904):r116 (l,())=some ((Zfd l,()),()):=by
 have key:=ZaL (fun k i=>n116_0 r121 k (l,()) () ((i:Int),())) l (inR 0 255) (Sum.inl ((l.length:Int),()),()) (Sum.inr (false,()),())
  (fun k i h hq=>by
   simp only[n116_0,w116_0,Zab]
   rw[Zaj (by omega),Zao (by omega),ZaA .i l i h,Zcq,ZaW (by omega)]
   simp only[cond_true,Option.bind_some,hq,Bool.not_true,cond_false])
  (fun k i h hq=>by
   simp only[n116_0,w116_0,Zab]
   rw[Zaj (by omega),Zao (by omega),ZaA .i l i h,Zcq]
   simp only[cond_true,Option.bind_some,hq,Bool.not_false])
  (fun k=>by
   simp only[n116_0,w116_0,Zab]
   rw[ZaB (by omega)];rfl) fuel 0 (by omega) (by have:=Zat;omega)
 unfold r116 m116 L116_0
 simp only[Zab]
 simp only[Int.natCast_zero,List.drop_zero]at key
 rw[key]
 unfold Zfd allR
 cases l.all (inR 0 255)<;>simp[Zai]
def Zfl (l:List Int):Bool:=eqI (l.length:Int) 256&&allR 0 255 l
def ZeP (f:List (List Int)):Bool:=f.all Zfl&&inR 1 8 (f.length:Int)
theorem ZkA (f:List (List Int)) (hf:small f):r92 ((f,()),())=some ((ZeP f,()),()):=by
 have h0:=hf.1
 have key:=ZaL (fun k i=>n92_0 r93 r52 k (f,((f.length:Int),())) () ((i:Int),())) f Zfl (Sum.inl ((f.length:Int),()),()) (Sum.inr (false,()),())
  (fun k i h hq=>by
   have hl:=hf.2.1 _ (List.getElem_mem h)
   simp only[Zfl,Bool.and_eq_true]at hq
   simp only[n92_0,w92_0,Zab]
   rw[Zaj (by omega),Zao (by omega),ZaA .n f i h,ZfO _ (by omega),ZaW (by omega)]
   have h1:(f[i].length:Int)=256:=by simpa [ZgU] using hq.1
   rw[ZdJ h1]
   simp only[cond_true,Option.bind_some,hq.2,Bool.not_true,cond_false])
  (fun k i h hq=>by
   have hl:=hf.2.1 _ (List.getElem_mem h)
   simp only[n92_0,w92_0,Zab]
   rw[Zaj (by omega),Zao (by omega),ZaA .n f i h,ZfO _ (by omega)]
   by_cases h1:(f[i].length:Int)=256
   ·rw[ZdJ h1]
    simp only[Zfl,Zav h1,Bool.true_and]at hq
    simp only[cond_true,Option.bind_some,hq,Bool.not_false,cond_false]
   ·rw[Zdh h1]
    simp only[cond_true])
  (fun k=>by
   simp only[n92_0,w92_0,Zab]
   rw[ZaB (by omega)];rfl) fuel 0 (by omega) (by have:=Zat;omega)
 unfold r92 m92 L92_0
 simp only[Zab]
 simp only[Int.natCast_zero,List.drop_zero]at key
 rw[key]
 unfold ZeP
 cases f.all Zfl<;>simp[Zai,Zbw]
theorem Zhl (f:List (List Int)) (i:Nat) (h:i<f.length) (hl:(f[i].length:Int)=256):
  L154_0 ((i:Int),()) ((f,()),()) ((0:Int),())=some (if f[i].all (inR 0 255)then (Sum.inl ((256:Int),()),((f,()),()))else (Sum.inr (false,()),((f,()),()))):=by
 have key:=ZaL (fun k j=>n154_0 r111 k ((i:Int),()) ((f,()),()) ((j:Int),())) f[i] (inR 0 255) (Sum.inl ((256:Int),()),((f,()),())) (Sum.inr (false,()),((f,()),()))
  (fun k j hj hq=>by
   simp only[n154_0,w154_0,Zab]
   rw[ZaA .n f i h,Zaj (show (j:Int)<256 by omega),Zao (show (0:Int)≤(i:Int) by omega),Zaj (show (i:Int)< (f.length:Int) by omega),Zao (show (0:Int)≤(j:Int) by omega),Zaj (by omega),ZaW (by omega),
    show rdI f[i] (j:Int)=f[i][j] by simp[rdI,List.getD,hj],ZbH]
   simp only[cond_true,Option.bind_some,hq,Bool.not_true,cond_false])
  (fun k j hj hq=>by
   simp only[n154_0,w154_0,Zab]
   rw[ZaA .n f i h,Zaj (show (j:Int)<256 by omega),Zao (show (0:Int)≤(i:Int) by omega),Zaj (show (i:Int)< (f.length:Int) by omega),Zao (show (0:Int)≤(j:Int) by omega),Zaj (by omega),
    show rdI f[i] (j:Int)=f[i][j] by simp[rdI,List.getD,hj],ZbH]
   simp only[cond_true,Option.bind_some,hq,Bool.not_false])
  (fun k=>by
   simp only[n154_0,w154_0,Zab]
   rw[ZaB (by omega)]
   simp only[cond_false,hl]) fuel 0 (by omega) (by have:=Zat;omega)
 exact key
theorem ZkM (f:List (List Int)) (hf:small f):r154 ((f,()),())=some ((ZeP f,()),()):=by
 have h0:=hf.1
 have key:=ZaL (fun k i=>n154_1 r111 L154_0 k () ((f,()),()) ((i:Int),())) f Zfl (Sum.inl ((f.length:Int),()),((f,()),())) (Sum.inr (false,()),((f,()),()))
  (fun k i h hq=>by
   simp only[Zfl,Bool.and_eq_true,allR]at hq
   have h1:(f[i].length:Int)=256:=by simpa [ZgU] using hq.1
   simp only[n154_1,w154_1,Zab]
   rw[Zaj (by omega),Zao (by omega),ZaA .n f i h,ZaW (by omega),ZdJ h1,Zhl f i h h1,hq.2]
   simp only[cond_true,cond_false,Option.bind_some,if_true,Zai])
  (fun k i h hq=>by
   simp only[n154_1,w154_1,Zab]
   rw[Zaj (by omega),Zao (by omega),ZaA .n f i h]
   by_cases h1:(f[i].length:Int)=256
   ·rw[ZdJ h1,Zhl f i h h1]
    simp only[Zfl,Zav h1,Bool.true_and,allR]at hq
    rw[hq]
    simp only[cond_true,cond_false,Option.bind_some,Zai,Bool.false_eq_true,if_false]
   ·rw[Zdh h1]
    simp only[cond_true])
  (fun k=>by
   simp only[n154_1,w154_1,Zab]
   rw[ZaB (by omega)];rfl) fuel 0 (by omega) (by have:=Zat;omega)
 unfold r154 m154 L154_1
 simp only[Zab]
 simp only[Int.natCast_zero,List.drop_zero]at key
 rw[key]
 unfold ZeP
 cases f.all Zfl<;>simp[Zai,ZbH]
def ZhP (f:List (List Int)) (x:Tup memL):Bool:=ZeP f&&(eqI (x.1.length:Int) 512&&(allR 0 255 x.1&&inR 0 ((f.length:Int)-1) x.2.1))
theorem ZdU (f:List (List Int)) (x:Tup memL) (hf:small f) (hx:x.1.length≤4398046511104):r45 ((f,()),(x,()))=some ((ZhP f x,()),()):=by
 unfold r45 m45
 have:=hf.1
 simp only[ZkA f hf,ZfO x.1 (by omega),Zbw,Option.bind_some,Zab,ZaF]
 rw[Zau (by omega) (by omega)]
 rfl
theorem ZfI (f:List (List Int)) (x:Tup memL) (hf:small f) (hx:x.1.length≤4398046511104):r117 ((f,()),(x,()))=some ((ZhP f x,()),()):=by
 unfold r117 m117
 have:=hf.1
 simp only[ZkM f hf,ZbH,Option.bind_some,Zab]
 rw[Zau (by omega) (by omega)]
 unfold ZhP
 cases ZeP f with
 |false=>rfl
 |true=>
  simp only[Bool.not_true,cond_false,Bool.true_and]
  by_cases h1:(x.1.length:Int)=512
  ·rw[ZdJ h1,Zav h1]
   simp only[cond_false,Bool.true_and]
   cases h2:inR 0 ((f.length:Int)-1) x.2.1 with
   |false=>simp
   |true=>
    have key:=ZaL (fun k i=>n117_0 r154 r111 r121 k () (x,()) ((i:Int),())) x.1 (inR 0 255) (Sum.inl ((512:Int),()),(x,())) (Sum.inr (false,()),(x,()))
     (fun k i h hq=>by
      simp only[n117_0,w117_0,Zab]
      rw[Zaj (show (i:Int)<512 by omega),Zao (by omega),Zaj (by omega),ZaA .i x.1 i h,Zcq,ZaW (by omega)]
      simp only[cond_true,Option.bind_some,hq,Bool.not_true,cond_false])
     (fun k i h hq=>by
      simp only[n117_0,w117_0,Zab]
      rw[Zaj (show (i:Int)<512 by omega),Zao (by omega),Zaj (by omega),ZaA .i x.1 i h,Zcq]
      simp only[cond_true,Option.bind_some,hq,Bool.not_false])
     (fun k=>by
      simp only[n117_0,w117_0,Zab]
      rw[ZaB (by omega)]
      simp only[cond_false,h1]) fuel 0 (by omega) (by have:=Zat;omega)
    unfold L117_0
    simp only[Int.natCast_zero,List.drop_zero]at key
    simp only[Bool.not_true,cond_false]
    rw[key]
    unfold allR
    cases x.1.all (inR 0 255)<;>simp[Zai]
  ·rw[Zdh h1,Zaq h1]
   rfl
def Zkw (c:Tup cpuL):Bool:=inR 0 255 c.1&&(inR 0 255 c.2.1&&(inR 0 255 c.2.2.1&&inR 0 65535 c.2.2.2.1))
theorem Zic (c:Tup cpuL):r47 (c,())=some ((Zkw c,()),()):=by
 unfold r47 m47
 simp only[ZcT,Zbw,Option.bind_some,ZaF]
 rfl
theorem Zny (c:Tup cpuL):r118 (c,())=some ((Zkw c,()),()):=by
 unfold r118 m118
 simp only[Zcq,ZbH,Option.bind_some,ZaF]
 rfl
def Zhy (a:Tup apuL):Bool:=inR 0 20000 a.1&&(inR 0 255 a.2.1&&(inR 0 255 a.2.2.1&&(inR 0 1 a.2.2.2.1&&inR 0 31 a.2.2.2.2.1)))
theorem ZdT (a:Tup apuL):r97 (a,())=some ((Zhy a,()),()):=by
 unfold r97 m97
 simp only[Zg3,ZcT,Zbw,Option.bind_some,ZaF]
 rfl
theorem Znw (a:Tup apuL):r158 (a,())=some ((Zhy a,()),()):=by
 unfold r158 m158
 simp only[Zcq,ZbH,Option.bind_some,ZaF]
 rfl
def ZmO (t:Int):Int:=if 48<Int.tmod t 64 then 0 else Int.tmod t 64
def Znj (p:Tup ppuL):Bool:=inR 0 20000 p.1&&(inR 0 255 p.2.1&&(inR 0 255 p.2.2.1&&(inR 0 15 p.2.2.2.1&&inR 0 63 p.2.2.2.2.1)))
def ZjN (p:Tup ppuL):Bool:=eqI (p.2.2.2.2.2.2.1.length:Int) 16&&(allR 0 63 p.2.2.2.2.2.2.1&&(eqI (p.2.2.2.2.2.2.2.1.length:Int) (ZmO p.1)&&allR 0 63 p.2.2.2.2.2.2.2.1))
def ZgD (p:Tup ppuL):Bool:=Znj p&&ZjN p
theorem Zig (p:Tup ppuL) (h:Zin p):r94 (p,())=some ((ZgD p,()),()):=by
 unfold r94 m94
 obtain ⟨h1,h2⟩:=h
 have hd:r138 p.2.2.2.2.2.2.2=some ((allR 0 63 p.2.2.2.2.2.2.2.1,()),()):=Zi8 p.2.2.2.2.2.2.2.1 (by omega)
 simp only[Zg3,ZcT,Zbw,Zi8 p.2.2.2.2.2.2.1 (by omega),hd,Zab,Option.bind_some]
 unfold ZgD Znj ZjN ZmO
 by_cases h48:48<Int.tmod p.1 64
 ·rw[Zaj h48,if_pos h48]
  simp only[cond_true,ZaF,Zdx,Bool.and_assoc]
 ·rw[ZaB h48,if_neg h48]
  simp only[cond_false,ZaF,Zdx,Bool.and_assoc]
theorem ZnD (p:Tup ppuL) (h16:(p.2.2.2.2.2.2.1.length:Int)=16):
  L155_1 () (p,()) ((0:Int),())=some (if p.2.2.2.2.2.2.1.all (inR 0 63)then (Sum.inl ((16:Int),()),(p,()))else (Sum.inr (false,()),(p,()))):=by
 have key:=ZaL (fun k i=>n155_1 r111 r121 r192 L155_0 k () (p,()) ((i:Int),())) p.2.2.2.2.2.2.1 (inR 0 63) (Sum.inl ((16:Int),()),(p,())) (Sum.inr (false,()),(p,()))
  (fun k i h hq=>by
   simp only[n155_1,w155_1,Zab]
   rw[Zaj (show (i:Int)<16 by omega),Zao (by omega),Zaj (by omega),ZaA .i p.2.2.2.2.2.2.1 i h,ZbH,ZaW (by omega)]
   simp only[cond_true,Option.bind_some,hq,Bool.not_true,cond_false])
  (fun k i h hq=>by
   simp only[n155_1,w155_1,Zab]
   rw[Zaj (show (i:Int)<16 by omega),Zao (by omega),Zaj (by omega),ZaA .i p.2.2.2.2.2.2.1 i h,ZbH]
   simp only[cond_true,Option.bind_some,hq,Bool.not_false])
  (fun k=>by
   simp only[n155_1,w155_1,Zab]
   rw[ZaB (by omega)]
   simp only[cond_false,h16]) fuel 0 (by omega) (by have:=Zat;omega)
 exact key
theorem ZoI (p:Tup ppuL) (hl:p.2.2.2.2.2.2.2.1.length≤4398046511104):
  L155_0 () (p,()) ((0:Int),())=some (if p.2.2.2.2.2.2.2.1.all (inR 0 63)then (Sum.inl ((p.2.2.2.2.2.2.2.1.length:Int),()),(p,()))else (Sum.inr (false,()),(p,()))):=by
 have key:=ZaL (fun k i=>n155_0 r111 r121 r192 k () (p,()) ((i:Int),())) p.2.2.2.2.2.2.2.1 (inR 0 63) (Sum.inl ((p.2.2.2.2.2.2.2.1.length:Int),()),(p,())) (Sum.inr (false,()),(p,()))
  (fun k i h hq=>by
   simp only[n155_0,w155_0,Zab]
   rw[Zaj (show (i:Int)<_ by omega),Zao (by omega),ZaA .i p.2.2.2.2.2.2.2.1 i h,ZbH,ZaW (by omega)]
   simp only[cond_true,Option.bind_some,hq,Bool.not_true,cond_false])
  (fun k i h hq=>by
   simp only[n155_0,w155_0,Zab]
   rw[Zaj (show (i:Int)<_ by omega),Zao (by omega),ZaA .i p.2.2.2.2.2.2.2.1 i h,ZbH]
   simp only[cond_true,Option.bind_some,hq,Bool.not_false])
  (fun k=>by
   simp only[n155_0,w155_0,Zab]
   rw[ZaB (by omega)]
   rfl) fuel 0 (by omega) (by have:=Zat;omega)
 exact key
theorem ZnA (p:Tup ppuL) (h:Zin p):r155 (p,())=some ((ZgD p,()),()):=by
 unfold r155 m155
 obtain ⟨h1,h2⟩:=h
 have hd:r192 (p.1,())=some ((ZmO p.1,()),()):=by
  unfold r192 m192 ZmO
  by_cases h48:48<Int.tmod p.1 64
  ·simp only[Zaj h48,cond_true,h48,if_true]
  ·simp only[ZaB h48,cond_false,h48,if_false]
 have hrest:(bif neI (p.2.2.2.2.2.2.1.length:Int) 16 then some ((false,()),())else
   bif neI (p.2.2.2.2.2.2.2.1.length:Int) (ZmO p.1)then some ((false,()),())
   else (L155_1 () (p,()) ((0:Int),())).bind fun r6=>Zai r6.1 (fun r7=>(L155_0 () ((r6.2.1.1,(r6.2.1.2.1,(r6.2.1.2.2.1,(r6.2.1.2.2.2.1,(r6.2.1.2.2.2.2.1,(r6.2.1.2.2.2.2.2.1,p.2.2.2.2.2.2)))))),()) ((0:Int),())).bind fun r8=>
    Zai r8.1 (fun r9=>some ((true,()),())) (fun r9=>some (r9,()))) (fun r7=>some (r7,())))=some ((ZjN p,()),()):=by
  unfold ZjN
  by_cases h16:(p.2.2.2.2.2.2.1.length:Int)=16
  ·rw[ZdJ h16,Zav h16,cond_false]
   by_cases hdn:(p.2.2.2.2.2.2.2.1.length:Int)=ZmO p.1
   ·rw[ZdJ hdn,Zav hdn,cond_false,ZnD p h16]
    unfold allR
    cases p.2.2.2.2.2.2.1.all (inR 0 63)with
    |false=>rfl
    |true=>
     simp only[if_true,Option.bind_some,Zai]
     rw[show ((p.1,(p.2.1,(p.2.2.1,(p.2.2.2.1,(p.2.2.2.2.1,(p.2.2.2.2.2.1,p.2.2.2.2.2.2)))))):Tup ppuL)=p from rfl,ZoI p h2]
     cases p.2.2.2.2.2.2.2.1.all (inR 0 63)<;>rfl
   ·rw[Zdh hdn,Zaq hdn,cond_true]
    simp
  ·rw[Zdh h16,Zaq h16,cond_true]
   rfl
 simp only[ZbH,Zcq,hd,Zab,Option.bind_some]
 rw[hrest]
 simp only[Zdx]
 unfold ZgD Znj
 simp only[Bool.and_assoc]
abbrev Zey:List LT:=[.int .i64, .sl false .t]
def ZfE (l:List (Int×Int×Int)) (i:Nat):Bool:=inR 0 20000 (rdE .t l (i:Int)).1&&(inR 0 7 (rdE .t l (i:Int)).2.1&&(inR 0 255 (rdE .t l (i:Int)).2.2&&(decide (i=0)|| !ltI (rdE .t l (i:Int)).1 (rdE .t l ((i-1:Nat):Int)).1)))
def Zd0 (r:Tup Zey):Bool:=(List.range' 0 r.2.1.length).all (ZfE r.2.1)&&(inR 1 16 r.1&&leI (r.2.1.length:Int) r.1)
theorem Zmu {i:Nat} (h:i≠0) (h2:i<9223372036854775807):wI ((i:Int)-1)=((i-1:Nat):Int):=by
 rw[Zau (by omega) (by omega)];omega
theorem Zgg (r:Tup Zey) (hl:r.2.1.length≤4398046511104) (k i:Nat) (h:i<r.2.1.length):
  n123_0 r50 r51 r52 (k+1) (r.2.1,((r.2.1.length:Int),())) (r,()) ((i:Int),())=
   bif ZfE r.2.1 i then n123_0 r50 r51 r52 k (r.2.1,((r.2.1.length:Int),())) (r,()) (((i+1:Nat):Int),())else some (Sum.inr (false,()),(r,())):=by
 simp only[n123_0,w123_0,Zab]
 rw[Zaj (show (i:Int)<_ by omega),Zao (show (0:Int)≤(i:Int) by omega),ZaW (by omega)]
 simp only[cond_true,Zg3,Zbw,ZcT,Option.bind_some]
 unfold ZfE
 generalize inR 0 20000 (rdE .t r.2.1 (i:Int)).1=x1
 generalize inR 0 7 (rdE .t r.2.1 (i:Int)).2.1=x2
 generalize inR 0 255 (rdE .t r.2.1 (i:Int)).2.2=x3
 by_cases h0:i=0
 ·subst h0
  rw[ZaB (by omega)]
  cases x1<;>cases x2<;>cases x3<;>rfl
 ·rw[Zaj (by omega),Zmu h0 (by omega),Zao (by omega),Zaj (by omega),decide_eq_false h0]
  generalize ltI (rdE .t r.2.1 (i:Int)).1 (rdE .t r.2.1 ((i-1:Nat):Int)).1=x4
  cases x1<;>cases x2<;>cases x3<;>cases x4<;>rfl
theorem Zg2 (r:Tup Zey) (hl:r.2.1.length≤4398046511104):r123 (r,())=some ((Zd0 r,()),()):=by
 have key:=Zfi (fun k i=>n123_0 r50 r51 r52 k (r.2.1,((r.2.1.length:Int),())) (r,()) ((i:Int),())) r.2.1.length (ZfE r.2.1) (Sum.inl ((r.2.1.length:Int),()),(r,())) (Sum.inr (false,()),(r,()))
  (fun k i h hq=>by simp only[Zgg r hl k i h,hq,cond_true])
  (fun k i h hq=>by simp only[Zgg r hl k i h,hq,cond_false])
  (fun k=>by
   simp only[n123_0,w123_0,Zab]
   rw[ZaB (by omega)];rfl) fuel 0 (by omega) (by have:=Zat;omega)
 unfold r123 m123 L123_0
 simp only[Zab]
 simp only[Int.natCast_zero,Nat.sub_zero]at key
 rw[key]
 unfold Zd0
 cases (List.range' 0 r.2.1.length).all (ZfE r.2.1)with
 |false=>rfl
 |true=>simp only[if_true,Option.bind_some,Zai,Zbw,ZaF,Bool.true_and]
theorem Zgn (r:Tup Zey) (hl:r.2.1.length≤4398046511104) (k i:Nat) (h:i<r.2.1.length):
  n156_0 r111 r121 (k+1) () (r,()) ((i:Int),())=
   bif ZfE r.2.1 i then n156_0 r111 r121 k () (r,()) (((i+1:Nat):Int),())else some (Sum.inr (false,()),(r,())):=by
 simp only[n156_0,w156_0,Zab]
 rw[Zaj (show (i:Int)<_ by omega),Zao (show (0:Int)≤(i:Int) by omega),ZaW (by omega)]
 simp only[cond_true,ZbH,Zcq,Option.bind_some]
 unfold ZfE
 generalize inR 0 20000 (rdE .t r.2.1 (i:Int)).1=x1
 generalize inR 0 7 (rdE .t r.2.1 (i:Int)).2.1=x2
 generalize inR 0 255 (rdE .t r.2.1 (i:Int)).2.2=x3
 by_cases h0:i=0
 ·subst h0
  rw[ZaB (by omega)]
  cases x1<;>cases x2<;>cases x3<;>rfl
 ·rw[Zaj (by omega),Zmu h0 (by omega),Zao (by omega),Zaj (by omega),decide_eq_false h0]
  generalize ltI (rdE .t r.2.1 (i:Int)).1 (rdE .t r.2.1 ((i-1:Nat):Int)).1=x4
  cases x1<;>cases x2<;>cases x3<;>cases x4<;>rfl
theorem Zhm (r:Tup Zey) (hl:r.2.1.length≤4398046511104):r156 (r,())=some ((Zd0 r,()),()):=by
 have key:=Zfi (fun k i=>n156_0 r111 r121 k () (r,()) ((i:Int),())) r.2.1.length (ZfE r.2.1) (Sum.inl ((r.2.1.length:Int),()),(r,())) (Sum.inr (false,()),(r,()))
  (fun k i h hq=>by simp only[Zgn r hl k i h,hq,cond_true])
  (fun k i h hq=>by simp only[Zgn r hl k i h,hq,cond_false])
  (fun k=>by
   simp only[n156_0,w156_0,Zab]
   rw[ZaB (by omega)];rfl) fuel 0 (by omega) (by have:=Zat;omega)
 unfold r156 m156 L156_0
 simp only[Zab]
 simp only[Int.natCast_zero,Nat.sub_zero]at key
 rw[key]
 unfold Zd0
 cases (List.range' 0 r.2.1.length).all (ZfE r.2.1)with
 |false=>rfl
 |true=>simp only[if_true,Option.bind_some,Zai,ZbH,ZaF,Bool.true_and]
def ZdX (r:Tup Zey) (t:Int):Bool:=if r.2.1.length=0 then true else leI t (rdE .t r.2.1 (0:Int)).1
theorem Zj1 (r:Tup Zey) (t:Int) (hl:r.2.1.length≤4398046511104):r95 (r,(t,()))=some ((Zd0 r&&ZdX r t,()),()):=by
 unfold r95 m95
 simp only[Zg2 r hl,Option.bind_some,Zab]
 unfold ZdX
 cases Zd0 r with
 |false=>rfl
 |true=>
  by_cases h:r.2.1.length=0
  ·rw[Zav (by omega),if_pos h];rfl
  ·rw[Zaq (by omega),if_neg h,Zaj (by omega)];rfl
def Zco (f:List (List Int)) (t:Int):Bool:=f.all (fun l=>eqI (l.length:Int) 48)&&eqI (f.length:Int) (Int.tdiv (t+15) 64)
theorem Zms {t c d:Int} (h0:0≤t) (h1:t≤20000) (hc:0≤c) (hc2:c≤64) (hd:d=64∨d=16):wI (Int.tdiv (t+c) d)=Int.tdiv (t+c) d:=by
 rw[Int.tdiv_eq_ediv_of_nonneg (by omega)]
 rcases hd with rfl|rfl<;>exact Zau (by omega) (by omega)
theorem Zfr (f:List (List Int)) (t:Int) (hf:f.length≤4398046511104) (h0:0≤t) (h1:t≤20000):r96 (f,(t,()))=some ((Zco f t,()),()):=by
 have key:=ZaL (fun k i=>n96_0 r139 k (f,((f.length:Int),())) () ((i:Int),())) f (fun l=>eqI (l.length:Int) 48) (Sum.inl ((f.length:Int),()),()) (Sum.inr (false,()),())
  (fun k i h hq=>by
   simp only[n96_0,w96_0,Zab]
   rw[Zaj (by omega),Zao (by omega),ZaA .n f i h,ZaW (by omega)]
   have:(f[i].length:Int)=48:=by simpa [ZgU] using hq
   rw[ZdJ this]
   simp only[cond_true,cond_false])
  (fun k i h hq=>by
   simp only[n96_0,w96_0,Zab]
   rw[Zaj (by omega),Zao (by omega),ZaA .n f i h]
   have: ¬(f[i].length:Int)=48:=by simpa [ZgU] using hq
   rw[Zdh this]
   simp only[cond_true])
  (fun k=>by
   simp only[n96_0,w96_0,Zab]
   rw[ZaB (by omega)];rfl) fuel 0 (by omega) (by have:=Zat;omega)
 unfold r96 m96 L96_0
 simp only[Zab]
 simp only[Int.natCast_zero,List.drop_zero]at key
 rw[key]
 unfold Zco
 cases f.all (fun l=>eqI (l.length:Int) 48)with
 |false=>rfl
 |true=>
  have hc:r139 (t,((48:Int),((64:Int),())))=some ((Int.tdiv (t+15) 64,()),()):=by
   unfold r139 m139
   simp only
   rw[Zdh (by omega),Zau (x:=t+64) (by omega) (by omega),Zau (x:=t+64-1) (by omega) (by omega),Zau (x:=t+64-1-48) (by omega) (by omega),show t+64-1-48=t+15 by omega,Zms h0 h1 (by omega) (by omega) (.inl rfl)]
   rfl
  simp only[if_true,Option.bind_some,Zai,hc,Bool.true_and]
theorem Zka (f:List (List Int)) (t:Int) (hf:f.length≤4398046511104) (h0:0≤t) (h1:t≤20000):r157 (f,(t,()))=some ((Zco f t,()),()):=by
 have key:=ZaL (fun k i=>n157_0 r193 k (f,()) () ((i:Int),())) f (fun l=>eqI (l.length:Int) 48) (Sum.inl ((f.length:Int),()),()) (Sum.inr (false,()),())
  (fun k i h hq=>by
   simp only[n157_0,w157_0,Zab]
   rw[Zaj (by omega),Zao (by omega),ZaA .n f i h,ZaW (by omega)]
   have:(f[i].length:Int)=48:=by simpa [ZgU] using hq
   rw[ZdJ this]
   simp only[cond_true,cond_false])
  (fun k i h hq=>by
   simp only[n157_0,w157_0,Zab]
   rw[Zaj (by omega),Zao (by omega),ZaA .n f i h]
   have: ¬(f[i].length:Int)=48:=by simpa [ZgU] using hq
   rw[Zdh this]
   simp only[cond_true])
  (fun k=>by
   simp only[n157_0,w157_0,Zab]
   rw[ZaB (by omega)];rfl) fuel 0 (by omega) (by have:=Zat;omega)
 unfold r157 m157 L157_0
 simp only[Zab]
 simp only[Int.natCast_zero,List.drop_zero]at key
 rw[key]
 unfold Zco
 cases f.all (fun l=>eqI (l.length:Int) 48)with
 |false=>rfl
 |true=>
  have hc:r193 (t,())=some ((Int.tdiv (t+15) 64,()),()):=by
   unfold r193 m193
   simp only
   rw[Zau (x:=t+64) (by omega) (by omega),Zau (x:=t+64-48) (by omega) (by omega),Zau (x:=t+64-48-1) (by omega) (by omega),show t+64-48-1=t+15 by omega,Zms h0 h1 (by omega) (by omega) (.inl rfl)]
  simp only[if_true,Option.bind_some,Zai,hc,Bool.true_and]
def ZdE (s:List Int) (t:Int):Bool:=eqI (s.length:Int) (Int.tdiv t 16)
theorem Zfa (s:List Int) (t:Int) (h0:0≤t) (h1:t≤20000):r98 (s,(t,()))=some ((ZdE s t,()),()):=by
 unfold r98 m98 r139 m139
 simp only
 rw[Zdh (by omega),Zau (x:=t+16) (by omega) (by omega),Zau (x:=t+16-1) (by omega) (by omega),Zau (x:=t+16-1-15) (by omega) (by omega),show t+16-1-15=t+0 by omega,Zms h0 h1 (by omega) (by omega) (.inr rfl),Int.add_zero]
 rfl
abbrev picL:List LT:=ppuL++(Zey++[.sl false .n])
abbrev sndL:List LT:=apuL++(Zey++[.sl false .i])
abbrev Zou (w:Tup picL):Tup ppuL:=(w.1,(w.2.1,(w.2.2.1,(w.2.2.2.1,(w.2.2.2.2.1,(w.2.2.2.2.2.1,(w.2.2.2.2.2.2.1,(w.2.2.2.2.2.2.2.1,()))))))))
abbrev Zew (w:Tup picL):Tup Zey:=(w.2.2.2.2.2.2.2.2.1,(w.2.2.2.2.2.2.2.2.2.1,()))
abbrev Zsg (w:Tup sndL):Tup apuL:=(w.1,(w.2.1,(w.2.2.1,(w.2.2.2.1,(w.2.2.2.2.1,(w.2.2.2.2.2.1,(w.2.2.2.2.2.2.1,())))))))
abbrev Zez (w:Tup sndL):Tup Zey:=(w.2.2.2.2.2.2.2.1,(w.2.2.2.2.2.2.2.2.1,()))
def Znh (w:Tup picL):Prop:=Zin (Zou w)∧(Zew w).2.1.length≤4398046511104∧small w.2.2.2.2.2.2.2.2.2.2.1
def Zns (w:Tup sndL):Prop:=(Zez w).2.1.length≤4398046511104∧w.2.2.2.2.2.2.2.2.2.1.length≤4398046511104
def ZkH (w:Tup picL):Bool:=ZgD (Zou w)&&(Zd0 (Zew w)&&(ZdX (Zew w) w.1&&Zco w.2.2.2.2.2.2.2.2.2.2.1 w.1))
def ZkL (w:Tup sndL):Bool:=Zhy (Zsg w)&&(Zd0 (Zez w)&&(ZdX (Zez w) w.1&&ZdE w.2.2.2.2.2.2.2.2.2.1 w.1))
theorem Zr2 {p:Tup ppuL} (h:ZgD p=true):0≤p.1∧p.1≤20000:=by
 simp only[ZgD,Znj,Bool.and_eq_true]at h
 exact Zbp.1 h.1.1
theorem ZqZ {p:Tup apuL} (h:Zhy p=true):0≤p.1∧p.1≤20000:=by
 simp only[Zhy,Bool.and_eq_true]at h
 exact Zbp.1 h.1
theorem Ziy (w:Tup picL) (h:Znh w):r48 (w,())=some ((ZkH w,()),()):=by
 unfold r48 m48 ZkH
 obtain ⟨h1,h2,h3⟩:=h
 simp only[Zig (Zou w) h1,Zj1 (Zew w) w.1 h2,Option.bind_some]
 cases e:ZgD (Zou w)with
 |false=>rfl
 |true=>
  obtain ⟨t0,t1⟩:=Zr2 e
  simp only[Zfr w.2.2.2.2.2.2.2.2.2.2.1 w.1 h3.1 t0 t1,Option.bind_some,cond_true,ZaF,Bool.and_assoc,Bool.true_and]
theorem ZiD (w:Tup picL) (h:Znh w):r119 (w,())=some ((ZkH w,()),()):=by
 unfold r119 m119 ZkH
 obtain ⟨h1,h2,h3⟩:=h
 simp only[ZnA (Zou w) h1,Zhm (Zew w) h2,Option.bind_some,Zab]
 cases e:ZgD (Zou w)with
 |false=>rfl
 |true=>
  obtain ⟨t0,t1⟩:=Zr2 e
  simp only[Zka w.2.2.2.2.2.2.2.2.2.2.1 w.1 h3.1 t0 t1,Option.bind_some,Bool.not_true,cond_false,Bool.true_and]
  unfold ZdX
  cases Zd0 (Zew w)with
  |false=>rfl
  |true=>
   by_cases hz:(Zew w).2.1.length=0
   ·rw[Zav (by have:w.2.2.2.2.2.2.2.2.2.1.length=0:=hz;omega),if_pos hz]
    simp
   ·rw[Zaq (by have: ¬w.2.2.2.2.2.2.2.2.2.1.length=0:=hz;omega),if_neg hz,Zaj (by have: ¬w.2.2.2.2.2.2.2.2.2.1.length=0:=hz;omega)]
    simp only[ZaF,Bool.not_true,cond_false,cond_true,Bool.true_and]
theorem ZkC (w:Tup sndL) (h:Zns w):r49 (w,())=some ((ZkL w,()),()):=by
 unfold r49 m49 ZkL
 obtain ⟨h1,h2⟩:=h
 simp only[ZdT (Zsg w),Zj1 (Zez w) w.1 h1,Option.bind_some]
 cases e:Zhy (Zsg w)with
 |false=>rfl
 |true=>
  obtain ⟨t0,t1⟩:=ZqZ e
  simp only[Zfa w.2.2.2.2.2.2.2.2.2.1 w.1 t0 t1,Option.bind_some,cond_true,ZaF,Bool.and_assoc,Bool.true_and]
theorem ZkN (w:Tup sndL) (h:Zns w):r120 (w,())=some ((ZkL w,()),()):=by
 unfold r120 m120 ZkL
 obtain ⟨h1,h2⟩:=h
 simp only[Znw (Zsg w),Zhm (Zez w) h1,Option.bind_some,Zab]
 cases e:Zhy (Zsg w)with
 |false=>rfl
 |true=>
  obtain ⟨t0,t1⟩:=ZqZ e
  have et:wI (Int.tdiv w.1 16)=Int.tdiv w.1 16:=by
   have:=Zms (c:=0) t0 t1 (by omega) (by omega) (.inr rfl:(16:Int)=64∨(16:Int)=16)
   simpa using this
  rw[et]
  unfold ZdX ZdE
  cases Zd0 (Zez w)with
  |false=>rfl
  |true=>
   by_cases hz:(Zez w).2.1.length=0
   ·rw[Zav (show (w.2.2.2.2.2.2.2.2.1.length:Int)=0 by have:w.2.2.2.2.2.2.2.2.1.length=0:=hz;omega),if_pos hz]
    simp
   ·rw[Zaq (show¬(w.2.2.2.2.2.2.2.2.1.length:Int)=0 by have: ¬w.2.2.2.2.2.2.2.2.1.length=0:=hz;omega),if_neg hz,Zaj (by have: ¬w.2.2.2.2.2.2.2.2.1.length=0:=hz;omega)]
    simp only[ZaF,Bool.not_true,cond_false,cond_true,Bool.true_and]
abbrev ZbF:List LT:= .sl false .n:: .sl false .i::(memL++(cpuL++(padL++(.int .i64:: .bool:: .int .i64:: .bool:: .int .i64:: .int .i64:: .sl false .i::(picL++sndL)))))
section
variable (s:Tup ZbF)
abbrev Znu:List (List Int):=s.1
abbrev Zip:List Int:=s.2.1
abbrev Zmk:Tup memL:=(s.2.2.1,(s.2.2.2.1,()))
abbrev Zh2:Tup cpuL:=(s.2.2.2.2.1,(s.2.2.2.2.2.1,(s.2.2.2.2.2.2.1,(s.2.2.2.2.2.2.2.1,(s.2.2.2.2.2.2.2.2.1,(s.2.2.2.2.2.2.2.2.2.1,(s.2.2.2.2.2.2.2.2.2.2.1,(s.2.2.2.2.2.2.2.2.2.2.2.1,()))))))))
abbrev ZvJ:Tup padL:=(s.2.2.2.2.2.2.2.2.2.2.2.2.1,(s.2.2.2.2.2.2.2.2.2.2.2.2.2.1,()))
abbrev ZuV:Int:=s.2.2.2.2.2.2.2.2.2.2.2.2.2.1
abbrev spT:Int:=s.2.2.2.2.2.2.2.2.2.2.2.2.2.2.1
abbrev Zv0:Bool:=s.2.2.2.2.2.2.2.2.2.2.2.2.2.2.2.1
abbrev ZvI:Int:=s.2.2.2.2.2.2.2.2.2.2.2.2.2.2.2.2.1
abbrev Zsl:Int:=s.2.2.2.2.2.2.2.2.2.2.2.2.2.2.2.2.2.2.1
abbrev Zsm:Int:=s.2.2.2.2.2.2.2.2.2.2.2.2.2.2.2.2.2.2.2.1
abbrev Zml:List Int:=s.2.2.2.2.2.2.2.2.2.2.2.2.2.2.2.2.2.2.2.2.1
abbrev Zc7:Tup picL:=(s.2.2.2.2.2.2.2.2.2.2.2.2.2.2.2.2.2.2.2.2.2.1,(s.2.2.2.2.2.2.2.2.2.2.2.2.2.2.2.2.2.2.2.2.2.2.1,(s.2.2.2.2.2.2.2.2.2.2.2.2.2.2.2.2.2.2.2.2.2.2.2.1,(s.2.2.2.2.2.2.2.2.2.2.2.2.2.2.2.2.2.2.2.2.2.2.2.2.1,(s.2.2.2.2.2.2.2.2.2.2.2.2.2.2.2.2.2.2.2.2.2.2.2.2.2.1,(s.2.2.2.2.2.2.2.2.2.2.2.2.2.2.2.2.2.2.2.2.2.2.2.2.2.2.1,(s.2.2.2.2.2.2.2.2.2.2.2.2.2.2.2.2.2.2.2.2.2.2.2.2.2.2.2.1,(s.2.2.2.2.2.2.2.2.2.2.2.2.2.2.2.2.2.2.2.2.2.2.2.2.2.2.2.2.1,(s.2.2.2.2.2.2.2.2.2.2.2.2.2.2.2.2.2.2.2.2.2.2.2.2.2.2.2.2.2.1,(s.2.2.2.2.2.2.2.2.2.2.2.2.2.2.2.2.2.2.2.2.2.2.2.2.2.2.2.2.2.2.1,(s.2.2.2.2.2.2.2.2.2.2.2.2.2.2.2.2.2.2.2.2.2.2.2.2.2.2.2.2.2.2.2.1,())))))))))))
abbrev Zdj:Tup sndL:=s.2.2.2.2.2.2.2.2.2.2.2.2.2.2.2.2.2.2.2.2.2.2.2.2.2.2.2.2.2.2.2.2
end
theorem ZrM (a b:Int):ltI a b= !leI b a:=by
 by_cases h:a<b
 ·rw[Zaj h,Zf5 (by omega)];rfl
 ·rw[ZaB h,Zao (by omega)];rfl
def ZcP (r:Tup Zey) (t:Int):Bool:=if r.2.1.length=0 then true else leI (rdE .t r.2.1 ((r.2.1.length-1:Nat):Int)).1 t
theorem Zj2 (r:Tup Zey) (t:Int) (hl:r.2.1.length≤4398046511104):r53 (r,(t,()))=some ((ZcP r t,()),()):=by
 unfold r53 m53 ZcP
 simp only[Zab]
 by_cases h:r.2.1.length=0
 ·rw[Zav (by omega),if_pos h];rfl
 ·rw[Zaq (by omega),if_neg h,Zmu h (by omega),Zao (by omega),Zaj (by omega)];rfl
def Ztc (r:Tup Zey):Int:=if r.2.1.length=0 then 0 else (rdE .t r.2.1 ((r.2.1.length-1:Nat):Int)).1
theorem Zlf (r:Tup Zey) (hl:r.2.1.length≤4398046511104):r122 (r,())=some ((Ztc r,()),()):=by
 unfold r122 m122 Ztc
 simp only[Zab]
 by_cases h:r.2.1.length=0
 ·rw[Zav (by omega),if_pos h];rfl
 ·rw[Zaq (by omega),if_neg h,Zmu h (by omega),Zao (by omega),Zaj (by omega)];rfl
theorem Zo5 (r:Tup Zey) (t:Int) (h:0≤t):leI (Ztc r) t=ZcP r t:=by
 unfold Ztc ZcP
 split
 ·rw[Zao h]
 ·rfl
def ZaG (s:Tup ZbF):Prop:=small (Znu s)∧(Zip s).length≤4398046511104∧(Zmk s).1.length≤4398046511104∧(Zml s).length≤4398046511104∧Znh (Zc7 s)∧Zns (Zdj s)
def ZiP (s:Tup ZbF):Bool:=inR 0 255 (ZuV s)&&(inR 0 255 (ZvI s)&&(inR 0 20000 (spT s)&&(inR 0 (spT s) (Zsl s)&&inR 0 (spT s) (Zsm s))))
def Zf0 (s:Tup ZbF):Bool:=ZhP (Znu s) (Zmk s)&&(Zfd (Zip s)&&(Zkw (Zh2 s)&&(ZkH (Zc7 s)&&ZkL (Zdj s))))
def ZiO (s:Tup ZbF):Bool:=leI (Zc7 s).1 (spT s)&&(leI (Zdj s).1 (spT s)&&(ZcP (Zew (Zc7 s)) (spT s)&&ZcP (Zez (Zdj s)) (spT s)))
def ZaV (s:Tup ZbF):Bool:=Zf0 s&&(ZiP s&&ZiO s)
theorem Za4 (s:Tup ZbF) (h:ZaG s):r16 (s,())=some ((ZaV s,()),()):=by
 unfold r16 m16
 obtain ⟨h1,h2,h3,_,h5,h6⟩:=h
 simp only[ZdU (Znu s) (Zmk s) h1 h3,ZeQ (Zip s) (by omega),Zic (Zh2 s),Ziy (Zc7 s) h5,ZkC (Zdj s) h6,ZcT,Zg3,Zbw,
  Zj2 (Zew (Zc7 s)) _ h5.2.1,Zj2 (Zez (Zdj s)) _ h6.1,Option.bind_some]
 unfold ZaV Zf0 ZiP ZiO
 generalize ZhP (Znu s) (Zmk s)=x0
 generalize Zfd (Zip s)=x1
 generalize Zkw (Zh2 s)=x2
 generalize ZkH (Zc7 s)=x3
 generalize ZkL (Zdj s)=x4
 generalize ZcP (Zew (Zc7 s)) (spT s)=x5
 generalize ZcP (Zez (Zdj s)) (spT s)=x6
 cases x0<;>cases x1<;>cases x2<;>cases x3<;>cases x4<;>first| (simp[ZaF];done)| (simp[ZaF,Bool.and_assoc];done)
theorem ZkP (s:Tup ZbF) (h:ZaG s):r64 (s,())=some ((ZaV s,()),()):=by
 unfold r64 m64
 obtain ⟨h1,h2,h3,_,h5,h6⟩:=h
 simp only[ZfI (Znu s) (Zmk s) h1 h3,Zmn (Zip s) (by omega),Zny (Zh2 s),ZiD (Zc7 s) h5,ZkN (Zdj s) h6,Zcq,ZbH,
  Zlf (Zew (Zc7 s)) h5.2.1,Zlf (Zez (Zdj s)) h6.1,Option.bind_some]
 unfold ZaV Zf0 ZiP ZiO
 generalize ZhP (Znu s) (Zmk s)=x0
 generalize Zfd (Zip s)=x1
 generalize Zkw (Zh2 s)=x2
 generalize ZkH (Zc7 s)=x3
 generalize ZkL (Zdj s)=x4
 cases hT:inR 0 20000 (spT s)with
 |false=>cases x0<;>cases x1<;>cases x2<;>cases x3<;>cases x4<;>simp[Zdx]
 |true=>
  have t0:=(Zbp.1 hT).1
  rw[Zo5 _ _ t0,Zo5 _ _ t0]
  have e1:ltI (spT s) (Zc7 s).1= !leI (Zc7 s).1 (spT s):=ZrM _ _
  have e2:ltI (spT s) (Zdj s).1= !leI (Zdj s).1 (spT s):=ZrM _ _
  rw[e1,e2]
  cases x0<;>cases x1<;>cases x2<;>cases x3<;>cases x4<;>first| (simp[Zdx,ZaF];done)| (simp[Zdx,ZaF,Bool.and_assoc];done)| (simp[Zdx,ZaF,Bool.and_assoc];rfl)
theorem ZaM (l:List Int) (h:l.length≤4398046511104):r67 (l,())=some ((l,()),()):=by
 unfold r67 m67
 rw[Zc5 (by simp only[E.most];omega)]
 rfl
theorem ZdQ (f:List (List Int)) (h:small f):r66 ((f,()),())=some (((f,()),()),()):=by
 have h0:=h.1
 have key:=Zdc (fun k i out=>n66_0 r67 k (f,((f.length:Int),())) ((out,()),()) ((i:Int),())) f (fun out=>(Sum.inl ((f.length:Int),()),((out,()),())))
  (fun k i out hi ho=>by
   simp only[n66_0,w66_0,Zab]
   rw[Zaj (by omega),Zao (by omega),ZaA .n f i hi,ZaW (by omega),ZaM _ (h.2.1 _ (List.getElem_mem hi))]
   simp only[cond_true,Option.bind_some]
   rw[Zc5 (by simp only[E.most,List.length_singleton];omega)]
   rfl)
  (fun k out ho=>by
   simp only[n66_0,w66_0,Zab]
   rw[ZaB (by omega)];rfl) fuel 0 [] (by omega) rfl (by have:=Zat;omega)
 unfold r66 m66 L66_0
 simp only[Zab]
 simp only[Int.natCast_zero,List.drop_zero,List.nil_append]at key
 rw[key]
 rfl
theorem Zoa (f:List (List Int)) (h:small f):r60 ((f,()),())=some (((f,()),()),()):=by
 have h0:=h.1
 have key:=Zdc (fun k i out=>n60_0 k () ((f,()),((out,()),())) ((i:Int),())) f (fun out=>(Sum.inl ((f.length:Int),()),((f,()),((out,()),()))))
  (fun k i out hi ho=>by
   have hl:=h.2.1 _ (List.getElem_mem hi)
   simp only[n60_0,w60_0,Zab]
   rw[Zaj (by omega),Zao (by omega),ZaA .n f i hi,ZaW (by omega)]
   rw[Zc5 (by simp only[E.most];omega),Zc5 (by simp only[E.most,List.length_singleton];omega)]
   rfl)
  (fun k out ho=>by
   simp only[n60_0,w60_0,Zab]
   rw[ZaB (by omega)];rfl) fuel 0 [] (by omega) rfl (by have:=Zat;omega)
 unfold r60 m60 L60_0
 simp only[Int.natCast_zero,List.drop_zero,List.nil_append]at key
 rw[key]
 rfl
theorem ZeJ (f:List (List Int)) (h:small f):r143 (f,())=some ((f,()),()):=by
 have h0:=h.1
 have key:=Zdc (fun k i out=>n143_0 r67 k (f,((f.length:Int),())) () (out,((i:Int),()))) f (fun out=>(Sum.inl (out,((f.length:Int),())),()))
  (fun k i out hi ho=>by
   simp only[n143_0,w143_0,Zab]
   rw[Zaj (by omega),Zao (by omega),ZaA .n f i hi,ZaW (by omega),ZaM _ (h.2.1 _ (List.getElem_mem hi))]
   simp only[cond_true,Option.bind_some]
   rw[Zc5 (by simp only[E.most,List.length_singleton];omega)]
   rfl)
  (fun k out ho=>by
   simp only[n143_0,w143_0,Zab]
   rw[ZaB (by omega)];rfl) fuel 0 [] (by omega) rfl (by have:=Zat;omega)
 unfold r143 m143 L143_0
 simp only[Zab]
 simp only[Int.natCast_zero,List.drop_zero,List.nil_append]at key
 rw[key]
 rfl
theorem ZkX (x:Tup memL) (h:x.1.length≤4398046511104):r177 (x,())=some ((x,()),()):=by
 unfold r177 m177
 exact Zaa (ZaM x.1 h) rfl
theorem ZkY (p:Tup ppuL) (h:Zin p):r207 (p,())=some ((p,()),()):=by
 unfold r207 m207
 exact Zaa (ZaM p.2.2.2.2.2.2.1 h.1) (Zaa (ZaM p.2.2.2.2.2.2.2.1 h.2) rfl)
theorem Zgv (r:Tup Zey) (h:r.2.1.length≤4398046511104):r71 (r,())=some ((r,()),()):=by
 unfold r71 m71
 simp only
 rw[Zc5 (by simp only[E.most];omega)]
 rfl
theorem Zkv (w:Tup picL) (h:Znh w):r178 (w,())=some ((w,()),()):=by
 unfold r178 m178
 exact Zaa (ZkY (Zou w) h.1) (Zaa (Zgv (Zew w) h.2.1) (Zaa (ZeJ w.2.2.2.2.2.2.2.2.2.2.1 h.2.2) rfl))
theorem ZmK (w:Tup sndL) (h:Zns w):r179 (w,())=some ((w,()),()):=by
 unfold r179 m179
 exact Zaa (Zgv (Zez w) h.1) (Zaa (ZaM w.2.2.2.2.2.2.2.2.2.1 h.2) rfl)
theorem Zfn (s:Tup ZbF) (h:ZaG s):r147 (s,())=some ((s,()),()):=by
 unfold r147 m147
 obtain ⟨h1,h2,h3,h4,h5,h6⟩:=h
 exact Zaa (ZdQ (Znu s) h1) (Zaa (ZaM (Zip s) h2) (Zaa (ZkX (Zmk s) h3) (Zaa (ZaM (Zml s) h4) (Zaa (Zkv (Zc7 s) h5) (Zaa (ZmK (Zdj s) h6) rfl)))))
abbrev ZpB (s:Tup ZbF):List (List Int):=(Zc7 s).2.2.2.2.2.2.2.2.2.2.1
abbrev Znv (s:Tup ZbF):List Int:=(Zdj s).2.2.2.2.2.2.2.2.2.1
def ZqB (s:Tup ZbF):Tup obsL:=(ZpB s,(Znv s,(Zml s,())))
theorem Zid (s:Tup ZbF) (h:ZaG s):r104 (s,())=some ((ZqB s,()),()):=by
 unfold r104 m104
 obtain ⟨h1,h2,h3,h4,h5,h6⟩:=h
 exact Zaa (ZeJ (ZpB s) h5.2.2) (Zaa (ZaM (Znv s) h6.2) (Zaa (ZaM (Zml s) h4) rfl))
def Zto (s:Tup ZbF):Bool:=eqI (Zc7 s).1 (spT s)&&eqI ((Zew (Zc7 s)).2.1.length:Int) 0
def ZtA (s:Tup ZbF):Bool:=eqI (Zdj s).1 (spT s)&&eqI ((Zez (Zdj s)).2.1.length:Int) 0
theorem Zfe (s:Tup ZbF):r145 (s,())=some ((Zto s,()),()):=by
 unfold r145 m145
 simp only[Zab,ZaF]
 rfl
theorem Zed (s:Tup ZbF):r146 (s,())=some ((ZtA s,()),()):=by
 unfold r146 m146
 simp only[Zab,ZaF]
 rfl
def ZuC:Tup ZhN:=([],([],([],(0,(0,(0,(0,(0,(false,(false,(false,(false,(0,(0,(0,(0,(0,(false,([],([],(0,(0,(0,(0,(0,(false,(false,(false,(0,(false,(0,([],([],([],()))))))))))))))))))))))))))))))))))
def Zt9 (s:Tup ZbF):Tup ZhN:=(Znu s,(Zip s,((Zmk s).1,((Zmk s).2.1,((Zh2 s).1,((Zh2 s).2.1,((Zh2 s).2.2.1,((Zh2 s).2.2.2.1,((Zh2 s).2.2.2.2.1,((Zh2 s).2.2.2.2.2.1,((Zh2 s).2.2.2.2.2.2.1,((Zh2 s).2.2.2.2.2.2.2.1,
 ((Zc7 s).1,((Zc7 s).2.1,((Zc7 s).2.2.1,((Zc7 s).2.2.2.1,((Zc7 s).2.2.2.2.1,((Zc7 s).2.2.2.2.2.1,((Zc7 s).2.2.2.2.2.2.1,((Zc7 s).2.2.2.2.2.2.2.1,
 ((Zdj s).1,((Zdj s).2.1,((Zdj s).2.2.1,((Zdj s).2.2.2.1,((Zdj s).2.2.2.2.1,((Zdj s).2.2.2.2.2.1,((Zdj s).2.2.2.2.2.2.1,((ZvJ s).1,((ZvJ s).2.1,(Zv0 s,(Zsm s,ZqB s)))))))))))))))))))))))))))))))
def Zh9 (s:Tup ZbF):Tup ZhN:=if ZaV s&&(Zto s&&ZtA s)then Zt9 s else ZuC
theorem ZlX (s:Tup ZbF) (h:ZaG s):r106 (s,())=some ((Zh9 s,()),()):=by
 unfold r106 m106 Zh9
 refine Zaa (Za4 s h) ?_
 cases ZaV s with
 |false=>rfl
 |true=>
  refine Zaa (Zfe s) ?_
  cases Zto s with
  |false=>rfl
  |true=>
   refine Zaa (Zed s) ?_
   cases ZtA s with
   |false=>rfl
   |true=>exact Zaa (Zfn s h) (Zaa (Zid s h) rfl)
theorem mod256 (x:Int):0≤x%256∧x%256≤255:=by omega
theorem ZaN (y:PTup i194):r194 y=some (((y.1:Int)%256,()),()):=by
 unfold r194 m194
 rw[ZiH]
theorem ZbU (y:PTup i59):r59 y=some (((y.1:Int)%256,()),()):=by
 unfold r59 m59
 rw[ZiH]
theorem Zdz (y:PTup i216):r216 y=some (((y.1:Int)%65536,()),()):=by
 unfold r216 m216
 rw[ZkU]
theorem ZoH (y:PTup i217):r217 y=some (((y.1:Int)%65536,()),()):=by
 unfold r217 m217
 rw[ZkU]
def Zde (b:Bool):Int:=if b then 1 else 0
theorem Zjf (y:PTup i264):r264 y=some ((Zde y.1,()),()):=by
 unfold r264 m264 Zde
 obtain ⟨b,_⟩:=y
 cases b<;>rfl
theorem ZbP (b:Bool):0≤Zde b∧Zde b≤1:=by cases b<;>simp[Zde]
def ZgA (lo hi:Int):Int:=lo%256+256*(hi%256)
theorem ZcE (y:PTup i159):r159 y=some ((ZgA y.1 y.2.1,()),()):=by
 unfold r159 m159 ZgA
 obtain ⟨lo,hi,_⟩:=y
 simp only[ZaN,Option.bind_some]
 have h1:=mod256 lo
 have h2:=mod256 hi
 rw[Zau (x:=256*(hi%256)) (by omega) (by omega),Zau (by omega) (by omega)]
theorem Zkb (y:PTup i114):r114 y=some ((ZgA y.1 y.2.1,()),()):=by
 unfold r114 m114 ZgA
 obtain ⟨lo,hi,_⟩:=y
 simp only[ZbU,Option.bind_some]
 have h1:=mod256 lo
 have h2:=mod256 hi
 rw[Zau (x:=256*(hi%256)) (by omega) (by omega),Zau (by omega) (by omega)]
theorem Zft (y:PTup i269):r269 y=some ((eqI ((y.1:Int)%256) 0,(ltI 127 ((y.1:Int)%256),())),()):=by
 unfold r269 m269
 simp only[ZaN,Option.bind_some]
def addS (a b:Int) (c:Bool):Int:=a%256+b%256+Zde c
theorem Zjn (y:PTup i267):r267 y=some ((addS y.1 y.2.1 y.2.2.1%256,(ltI 255 (addS y.1 y.2.1 y.2.2.1),())),()):=by
 unfold r267 m267 addS
 obtain ⟨a,b,c,_⟩:=y
 simp only[ZaN,Zjf,Option.bind_some]
 have h1:=mod256 a
 have h2:=mod256 b
 have h3:=ZbP c
 rw[Zau (x:=a%256+b%256) (by omega) (by omega),Zau (x:=a%256+b%256+Zde c) (by omega) (by omega)]
def subS (a b:Int) (c:Bool):Int:=a%256-b%256-1+Zde c
theorem Zjx (y:PTup i268):r268 y=some ((subS y.1 y.2.1 y.2.2.1%256,(leI 0 (subS y.1 y.2.1 y.2.2.1),())),()):=by
 unfold r268 m268 subS
 obtain ⟨a,b,c,_⟩:=y
 simp only[ZaN,Zjf,Option.bind_some]
 have h1:=mod256 a
 have h2:=mod256 b
 have h3:=ZbP (!c)
 rw[Zau (x:=a%256-b%256) (by omega) (by omega),Zau (x:=a%256-b%256-Zde (!c)) (by omega) (by omega),show a%256-b%256-Zde (!c)=a%256-b%256-1+Zde c by cases c<;>simp[Zde]]
theorem Zct {n:Int} (h:0≤n∧n≤29):n=0∨n=1∨n=2∨n=3∨n=4∨n=5∨n=6∨n=7∨n=8∨n=9∨n=10∨n=11∨n=12∨n=13∨n=14∨n=15∨n=16∨n=17∨n=18∨n=19∨n=20∨n=21∨n=22∨n=23∨n=24∨n=25∨n=26∨n=27∨n=28∨n=29:=by omega
def ZaP (n:Int):Int:=if 0≤n∧n≤29 then ([1,2,3,3,2,2,2,2,2,2,1,1,1,1,3,3,3,3,3,3,3,1,1,1,1,1,1,1,1,3]:List Int).getD n.toNat 1 else 1
def Zba (n:Int):Int:=if 0≤n∧n≤29 then ([2,2,4,4,2,2,2,2,2,2,2,2,2,2,4,5,3,3,3,3,6,6,3,4,6,2,2,2,2,4]:List Int).getD n.toNat 2 else 2
def ZaX (n:Int):Int:=if n=2∨n=14∨n=29 then 1 else if n=3∨n=15 then 2 else 0
theorem ZdV (y:PTup i91):r91 y=some ((ZaP y.1,()),()):=by
 obtain ⟨(n:Int),_⟩:=y
 show r91 (n,())=some ((ZaP n,()),())
 by_cases h:0≤n∧n≤29
 ·rcases Zct h with rfl|rfl|rfl|rfl|rfl|rfl|rfl|rfl|rfl|rfl|rfl|rfl|rfl|rfl|rfl|rfl|rfl|rfl|rfl|rfl|rfl|rfl|rfl|rfl|rfl|rfl|rfl|rfl|rfl|rfl<;>rfl
 ·have e: ∀c:Int,0≤c→c≤29→eqI n c=false:=fun c h0 h1=>Zaq (by omega)
  have e2: ∀a b:Int,0≤a→b≤29→inR a b n=false:=fun a b h0 h1=>by
   cases hh:inR a b n with
   |false=>rfl
   |true=>have:=Zbp.1 hh;omega
  unfold r91 m91 ZaP
  rw[if_neg h]
  simp[e,e2,Zbw]
theorem Ziq (y:PTup i113):r113 y=some ((ZaP y.1,()),()):=by
 obtain ⟨(n:Int),_⟩:=y
 show r113 (n,())=some ((ZaP n,()),())
 by_cases h:0≤n∧n≤29
 ·rcases Zct h with rfl|rfl|rfl|rfl|rfl|rfl|rfl|rfl|rfl|rfl|rfl|rfl|rfl|rfl|rfl|rfl|rfl|rfl|rfl|rfl|rfl|rfl|rfl|rfl|rfl|rfl|rfl|rfl|rfl|rfl<;>rfl
 ·have e2:inR 0 29 n=false:=by
   cases hh:inR 0 29 n with
   |false=>rfl
   |true=>exact absurd (Zbp.1 hh) h
  unfold r113 m113 ZaP
  rw[if_neg h]
  simp only[ZbH,Option.bind_some,e2,Bool.not_false,cond_true]
theorem ZbQ (y:PTup i189):r189 y=some ((Zba y.1,()),()):=by
 obtain ⟨(n:Int),_⟩:=y
 show r189 (n,())=some ((Zba n,()),())
 by_cases h:0≤n∧n≤29
 ·rcases Zct h with rfl|rfl|rfl|rfl|rfl|rfl|rfl|rfl|rfl|rfl|rfl|rfl|rfl|rfl|rfl|rfl|rfl|rfl|rfl|rfl|rfl|rfl|rfl|rfl|rfl|rfl|rfl|rfl|rfl|rfl<;>rfl
 ·have e: ∀c:Int,0≤c→c≤29→eqI n c=false:=fun c h0 h1=>Zaq (by omega)
  unfold r189 m189 Zba
  rw[if_neg h]
  simp[e]
theorem Zjs (y:PTup i215):r215 y=some ((ZaX y.1,()),()):=by
 obtain ⟨(n:Int),_⟩:=y
 show r215 (n,())=some ((ZaX n,()),())
 by_cases h:0≤n∧n≤29
 ·rcases Zct h with rfl|rfl|rfl|rfl|rfl|rfl|rfl|rfl|rfl|rfl|rfl|rfl|rfl|rfl|rfl|rfl|rfl|rfl|rfl|rfl|rfl|rfl|rfl|rfl|rfl|rfl|rfl|rfl|rfl|rfl<;>rfl
 ·have e: ∀c:Int,0≤c→c≤29→eqI n c=false:=fun c h0 h1=>Zaq (by omega)
  unfold r215 m215 ZaX
  rw[if_neg (by omega),if_neg (by omega)]
  simp[e]
structure MemM where
 ram:List Int
 bank:Int
structure CpuM where
 a:Int
 x:Int
 s:Int
 pc:Int
 z:Bool
 n:Bool
 c:Bool
 i:Bool
structure PpuM where
 T:Int
 ctrl:Int
 scroll:Int
 addr:Int
 pal:Int
 blank:Bool
 table:List Int
 dots:List Int
structure ApuM where
 T:Int
 period:Int
 count:Int
 bit:Int
 len:Int
 asks:Bool
 irq:Bool
structure PadM where
 held:Bool
 shift:Int
def MemM.t (x:MemM):Tup memL:=(x.ram,(x.bank,()))
def CpuM.t (c:CpuM):Tup cpuL:=(c.a,(c.x,(c.s,(c.pc,(c.z,(c.n,(c.c,(c.i,()))))))))
def PpuM.t (p:PpuM):Tup ppuL:=(p.T,(p.ctrl,(p.scroll,(p.addr,(p.pal,(p.blank,(p.table,(p.dots,()))))))))
def ApuM.t (a:ApuM):Tup apuL:=(a.T,(a.period,(a.count,(a.bit,(a.len,(a.asks,(a.irq,())))))))
def PadM.t (x:PadM):Tup padL:=(x.held,(x.shift,()))
def memM (x:Tup memL):MemM:=⟨x.1,x.2.1⟩
def cpuM (c:Tup cpuL):CpuM:=⟨c.1,c.2.1,c.2.2.1,c.2.2.2.1,c.2.2.2.2.1,c.2.2.2.2.2.1,c.2.2.2.2.2.2.1,c.2.2.2.2.2.2.2.1⟩
def ppuM (p:Tup ppuL):PpuM:=⟨p.1,p.2.1,p.2.2.1,p.2.2.2.1,p.2.2.2.2.1,p.2.2.2.2.2.1,p.2.2.2.2.2.2.1,p.2.2.2.2.2.2.2.1⟩
def apuM (a:Tup apuL):ApuM:=⟨a.1,a.2.1,a.2.2.1,a.2.2.2.1,a.2.2.2.2.1,a.2.2.2.2.2.1,a.2.2.2.2.2.2.1⟩
def padM (x:Tup padL):PadM:=⟨x.1,x.2.1⟩
def Zb4 (l:List Int):Prop:= ∀n,n∈l→0≤n∧n≤255
structure ImgP (f:List (List Int)):Prop where
 banks: ∀b,b∈f→b.length=256∧Zb4 b
 lo:1≤f.length
 hi:f.length≤8
structure RamP (x:MemM):Prop where
 len:x.ram.length=512
 bytes:Zb4 x.ram
structure MemP (f:List (List Int)) (x:MemM):Prop where
 img:ImgP f
 ram:RamP x
 b0:0≤x.bank
 b1:x.bank< (f.length:Int)
structure CpuP (c:CpuM):Prop where
 a:0≤c.a∧c.a≤255
 x:0≤c.x∧c.x≤255
 s:0≤c.s∧c.s≤255
 pc:0≤c.pc∧c.pc≤65535
theorem ZgP {lo hi:Int} {l:List Int}:allR lo hi l=true↔ ∀n,n∈l→lo≤n∧n≤hi:=by
 unfold allR
 rw[List.all_eq_true]
 exact ⟨fun h n hn=>Zbp.1 (h n hn),fun h n hn=>Zbp.2 (h n hn)⟩
theorem Zcm {a b:Int}:eqI a b=true↔a=b:=by rw[ZgU];simp
theorem ZeU {a b:Int}:leI a b=true↔a≤b:=by simp[leI]
theorem Zjm {f:List (List Int)}:ZeP f=true↔ImgP f:=by
 unfold ZeP
 rw[Bool.and_eq_true,List.all_eq_true,Zbp]
 constructor
 ·rintro ⟨h,h1,h2⟩
  refine ⟨fun b hb=> ?_,by omega,by omega⟩
  have:=h b hb
  unfold Zfl at this
  rw[Bool.and_eq_true,Zcm,ZgP]at this
  exact ⟨by omega,this.2⟩
 ·rintro ⟨h,h1,h2⟩
  refine ⟨fun b hb=> ?_,by omega,by omega⟩
  unfold Zfl
  rw[Bool.and_eq_true,Zcm,ZgP]
  exact ⟨by have:=(h b hb).1;omega,(h b hb).2⟩
theorem ZdB {f:List (List Int)} {x:MemM}:ZhP f x.t=true↔MemP f x:=by
 unfold ZhP MemM.t
 simp only[Bool.and_eq_true,Zjm,Zcm,ZgP,Zbp]
 constructor
 ·rintro ⟨h,h1,h2,h3,h4⟩
  exact ⟨h,⟨by omega,h2⟩,h3,by omega⟩
 ·rintro ⟨h,⟨h1,h2⟩,h3,h4⟩
  exact ⟨h,by omega,h2,h3,by omega⟩
theorem ZgT {c:CpuM}:Zkw c.t=true↔CpuP c:=by
 unfold Zkw CpuM.t
 simp only[Bool.and_eq_true,Zbp]
 constructor
 ·rintro ⟨h,h1,h2,h3⟩;exact ⟨h,h1,h2,h3⟩
 ·rintro ⟨h,h1,h2,h3⟩;exact ⟨h,h1,h2,h3⟩
theorem ImgP.small {f:List (List Int)} (h:ImgP f):small f:=by
 have key: ∀g:List (List Int),(∀b,b∈g→b.length=256)→bulk g=256*g.length:=by
  intro g
  induction g with
  |nil=>intro _;rfl
  |cons b g ih=>
   intro hb
   simp only[bulk,List.length_cons]
   rw[ih (fun b hg=>hb b (List.mem_cons_of_mem _ hg)),hb b List.mem_cons_self]
   omega
 have hi:=h.hi
 refine ⟨by omega,fun l hl=> ?_,?_⟩
 ·have:=(h.banks l hl).1;omega
 ·rw[key f fun b hb=>(h.banks b hb).1];omega
def Zj5 (c:CpuM) (v:Int):CpuM:={c with a:=v%256,z:=eqI (v%256) 0,n:=ltI 127 (v%256)}
def Zsh (c:CpuM) (v:Int):CpuM:={c with x:=v%256,z:=eqI (v%256) 0,n:=ltI 127 (v%256)}
def wfT (c:CpuM) (f:Int):CpuM:={c with z:=neI (bAnd .i64 f 2) 0,n:=neI (bAnd .i64 f 128) 0,c:=neI (bAnd .i64 f 1) 0,i:=neI (bAnd .i64 f 4) 0}
def ZoY (c:CpuM):Int:=Zde c.c+2*Zde c.z+4*Zde c.i+128*Zde c.n
theorem Zbo (c:CpuM) (v:Int):r266 (c.t,(v,()))=some (((Zj5 c v).t,()),()):=by
 unfold r266 m266
 simp only[ZaN,Zft,Option.bind_some]
 rfl
theorem Zgx (c:CpuM) (v:Int):r270 (c.t,(v,()))=some (((Zsh c v).t,()),()):=by
 unfold r270 m270
 simp only[ZaN,Zft,Option.bind_some]
 rfl
theorem Zmi {c:CpuM} {v:Int} (h:CpuP c):CpuP (Zj5 c v):=⟨mod256 v,h.x,h.s,h.pc⟩
theorem ZuR {c:CpuM} {v:Int} (h:CpuP c):CpuP (Zsh c v):=⟨h.a,mod256 v,h.s,h.pc⟩
theorem Ziz (c:CpuM) (f:Int):r273 (c.t,(f,()))=some (((wfT c f).t,()),()):=rfl
theorem ZvN {c:CpuM} {f:Int} (h:CpuP c):CpuP (wfT c f):=⟨h.a,h.x,h.s,h.pc⟩
theorem ZmY (c:CpuM):r248 (c.t,())=some ((ZoY c,()),()):=by
 unfold r248 m248 ZoY
 simp only[Zjf,Option.bind_some,CpuM.t]
 obtain ⟨a,x,s,pc,z,n,c,i⟩:=c
 simp only
 cases z<;>cases n<;>cases c<;>cases i<;>rfl
def rgT (a:Int):Int×Int:=
 let b:=a%65536
 if b<8192 then (1,b%512)else if b<16384 then (2,b%8)else if b<16388 then (3,b%4)else if b=16406 then (4,0)else if b<32768 then (7,0)else if b<49152 then (5,b%256)else (6,b%256)
theorem Za8 {a b:Int} (h:0≤a):Int.tmod a b=a%b:=Int.tmod_eq_emod_of_nonneg h
theorem ZmZ (a:Int):r188 (a,())=some (((rgT a).1,((rgT a).2,())),()):=by
 unfold r188 m188 rgT
 simp only[Zdz,Option.bind_some]
 have h0:0≤a%65536:=by omega
 generalize a%65536=b at*
 rw[Za8 h0,Za8 h0,Za8 h0,Za8 h0]
 by_cases h1:b<8192
 ·rw[Zaj h1,if_pos h1];rfl
 rw[ZaB h1,if_neg h1,cond_false]
 by_cases h1:b<16384
 ·rw[Zaj h1,if_pos h1];rfl
 rw[ZaB h1,if_neg h1,cond_false]
 by_cases h1:b<16388
 ·rw[Zaj h1,if_pos h1];rfl
 rw[ZaB h1,if_neg h1,cond_false]
 by_cases h1:b=16406
 ·rw[Zav h1,if_pos h1];rfl
 rw[Zaq h1,if_neg h1,cond_false]
 by_cases h1:b<32768
 ·rw[Zaj h1,if_pos h1];rfl
 rw[ZaB h1,if_neg h1,cond_false]
 by_cases h1:b<49152
 ·rw[Zaj h1,if_pos h1];rfl
 rw[ZaB h1,if_neg h1,cond_false]
theorem Zbu (y:PTup i188):r188 y=some (((rgT y.1).1,((rgT y.1).2,())),()):=ZmZ y.1
theorem ZnB (a:Int):r191 (a,())=some (((rgT a).1,((rgT a).2,())),()):=by
 unfold r191 m191 rgT
 simp only[ZoH,Option.bind_some]
 have h0:0≤a%65536:=by omega
 generalize a%65536=b at*
 rw[Za8 h0,Za8 h0,Za8 h0,Za8 h0]
 by_cases h1:b<8192
 ·rw[Zaj h1,if_pos h1];rfl
 rw[ZaB h1,if_neg h1,cond_false]
 by_cases h1:b<16384
 ·rw[Zaj h1,if_pos h1];rfl
 rw[ZaB h1,if_neg h1,cond_false]
 by_cases h1:b<16388
 ·rw[Zaj h1,if_pos h1];rfl
 rw[ZaB h1,if_neg h1,cond_false]
 by_cases h1:b=16406
 ·rw[Zav h1,if_pos h1];rfl
 rw[Zaq h1,if_neg h1,cond_false]
 by_cases h1:b<32768
 ·rw[Zaj h1,if_pos h1];rfl
 rw[ZaB h1,if_neg h1,cond_false]
 by_cases h1:b<49152
 ·rw[Zaj h1,if_pos h1];rfl
 rw[ZaB h1,if_neg h1,cond_false]
theorem Zmo (y:PTup i191):r191 y=some (((rgT y.1).1,((rgT y.1).2,())),()):=ZnB y.1
theorem Zex (a:Int):((rgT a).1=1∧0≤(rgT a).2∧(rgT a).2<512)∨((rgT a).1=2∧0≤(rgT a).2∧(rgT a).2<8)∨((rgT a).1=3∧0≤(rgT a).2∧(rgT a).2<4)∨((rgT a).1=4∧(rgT a).2=0)∨((rgT a).1=5∧0≤(rgT a).2∧(rgT a).2<256)∨((rgT a).1=6∧0≤(rgT a).2∧(rgT a).2<256)∨((rgT a).1=7∧(rgT a).2=0):=by
 unfold rgT
 simp only
 split
 ·left;exact ⟨rfl,by show 0≤a%65536%512;omega,by show a%65536%512<512;omega⟩
 right
 split
 ·left;exact ⟨rfl,by show 0≤a%65536%8;omega,by show a%65536%8<8;omega⟩
 right
 split
 ·left;exact ⟨rfl,by show 0≤a%65536%4;omega,by show a%65536%4<4;omega⟩
 right
 split
 ·left;exact ⟨rfl,rfl⟩
 right
 split
 ·right;right;exact ⟨rfl,rfl⟩
 split
 ·left;exact ⟨rfl,by show 0≤a%65536%256;omega,by show a%65536%256<256;omega⟩
 ·right;left;exact ⟨rfl,by show 0≤a%65536%256;omega,by show a%65536%256<256;omega⟩
def Zbx (f:List (List Int)) (x:MemM) (a:Int):Int:=
 if (rgT a).1=1 then rdE .i x.ram (rgT a).2 else if (rgT a).1=5 then rdI (rdE .n f x.bank) (rgT a).2 else if (rgT a).1=6 then rdI (rdE .n f ((f.length:Int)-1)) (rgT a).2 else 0
theorem ZcK {e:E} {l:List e.C} {i:Int} (h0:0≤i) (h1:i< (l.length:Int)):rdE e l i∈l:=by
 have:i.toNat<l.length:=by omega
 rw[show rdE e l i=l[i.toNat] by simp[rdE,List.getD,this]]
 exact List.getElem_mem _
theorem Zr6 {l:List Int} {i:Int} (h0:0≤i) (h1:i< (l.length:Int)):rdI l i∈l:=ZcK (e:= .i) h0 h1
theorem ZhT {f:List (List Int)} {x:MemM} (h:MemP f x) (a:Int):0≤Zbx f x a∧Zbx f x a≤255:=by
 have hf:=h.img.lo
 have hb0:=h.b0
 have hb1:=h.b1
 have hl:=h.ram.len
 unfold Zbx
 have z:(0:Int)≤0∧(0:Int)≤255:=by decide
 rcases Zex a with ⟨e,h0,h1⟩| ⟨e,h0,h1⟩| ⟨e,h0,h1⟩| ⟨e,h0⟩| ⟨e,h0,h1⟩| ⟨e,h0,h1⟩| ⟨e,h0⟩<;>rw[e]
 ·exact h.ram.bytes _ (ZcK (e:= .i) h0 (by omega))
 ·exact z
 ·exact z
 ·exact z
 ·have hm:=h.img.banks _ (ZcK (e:= .n) hb0 hb1)
  exact hm.2 _ (Zr6 h0 (by have:=hm.1;omega))
 ·have hm:=h.img.banks _ (ZcK (e:= .n) (l:=f) (i:=(f.length:Int)-1) (by omega) (by omega))
  exact hm.2 _ (Zr6 h0 (by have:=hm.1;omega))
 ·exact z
theorem Zbt (f:List (List Int)) (x:MemM) (a:Int) (h:MemP f x):r195 ((f,()),(x.t,(a,())))=some ((Zbx f x a,()),()):=by
 have hf:=h.img.lo
 have hg:=h.img.hi
 have hb0:=h.b0
 have hb1:=h.b1
 have hl:=h.ram.len
 unfold r195 m195 Zbx
 simp only[Zbu,Option.bind_some,Zab,MemM.t]
 rw[Zau (x:=(f.length:Int)-1) (by omega) (by omega)]
 rcases Zex a with ⟨e,h0,h1⟩| ⟨e,h0,h1⟩| ⟨e,h0,h1⟩| ⟨e,h0⟩| ⟨e,h0,h1⟩| ⟨e,h0,h1⟩| ⟨e,h0⟩<;>rw[e]
 ·rw[Zao h0,Zaj (by omega)];rfl
 ·rfl
 ·rfl
 ·rfl
 ·have hm:=(h.img.banks _ (ZcK (e:= .n) hb0 hb1)).1
  rw[Zao hb0,Zaj hb1,Zao h0,Zaj (show (rgT a).2< ((rdE .n f x.bank:List Int).length:Int) by omega)];rfl
 ·have hm:=(h.img.banks _ (ZcK (e:= .n) (l:=f) (i:=(f.length:Int)-1) (by omega) (by omega))).1
  rw[Zao (show 0≤(f.length:Int)-1 by omega),Zaj (show (f.length:Int)-1< (f.length:Int) by omega),Zao h0,Zaj (show (rgT a).2< ((rdE .n f ((f.length:Int)-1):List Int).length:Int) by omega)];rfl
 ·rfl
theorem Znz (f:List (List Int)) (x:MemM) (a:Int) (h:MemP f x):r153 ((f,()),(x.t,(a,())))=some ((Zbx f x a,()),()):=by
 have hf:=h.img.lo
 have hg:=h.img.hi
 have hb0:=h.b0
 have hb1:=h.b1
 have hl:=h.ram.len
 unfold r153 m153 Zbx
 simp only[Zmo,Option.bind_some,Zab,MemM.t]
 rw[Zau (x:=(f.length:Int)-1) (by omega) (by omega)]
 rcases Zex a with ⟨e,h0,h1⟩| ⟨e,h0,h1⟩| ⟨e,h0,h1⟩| ⟨e,h0⟩| ⟨e,h0,h1⟩| ⟨e,h0,h1⟩| ⟨e,h0⟩<;>rw[e]
 ·rw[Zao h0,Zaj (by omega)];rfl
 ·rfl
 ·rfl
 ·rfl
 ·have hm:=(h.img.banks _ (ZcK (e:= .n) hb0 hb1)).1
  rw[Zao hb0,Zaj hb1,Zao h0,Zaj (show (rgT a).2< ((rdE .n f x.bank:List Int).length:Int) by omega)];rfl
 ·have hm:=(h.img.banks _ (ZcK (e:= .n) (l:=f) (i:=(f.length:Int)-1) (by omega) (by omega))).1
  rw[Zao (show 0≤(f.length:Int)-1 by omega),Zaj (show (f.length:Int)-1< (f.length:Int) by omega),Zao h0,Zaj (show (rgT a).2< ((rdE .n f ((f.length:Int)-1):List Int).length:Int) by omega)];rfl
 ·rfl
theorem Zn7 (f:List (List Int)) (x:MemM) (h:MemP f x):r45 ((f,()),(x.t,()))=some ((true,()),()):=by
 have:=ZdU f x.t h.img.small (by show x.ram.length≤_;have:=h.ram.len;omega)
 rw[ZdB.2 h]at this
 exact this
theorem ZoJ (f:List (List Int)) (x:MemM) (h:MemP f x):r117 ((f,()),(x.t,()))=some ((true,()),()):=by
 have:=ZfI f x.t h.img.small (by show x.ram.length≤_;have:=h.ram.len;omega)
 rw[ZdB.2 h]at this
 exact this
theorem Zju (f:List (List Int)) (x:MemM) (a:Int) (h:MemP f x):r160 ((f,()),(x.t,(a,())))=some ((Zbx f x a,()),()):=by
 unfold r160 m160
 exact Zaa (Zn7 f x h) (Zaa (Zbt f x a h) rfl)
theorem Zkd (f:List (List Int)) (x:MemM) (a:Int) (h:MemP f x):r115 ((f,()),(x.t,(a,())))=some ((Zbx f x a,()),()):=by
 unfold r115 m115
 exact Zaa (ZoJ f x h) (Zaa (Znz f x a h) rfl)
def ZkI (f:List (List Int)) (x:MemM) (a v:Int):MemM:=
 if (rgT a).1=1 then {x with ram:=x.ram.set (rgT a).2.toNat (v%256)}else if (rgT a).1=5∨(rgT a).1=6 then {x with bank:=(v%256)% (f.length:Int)}else x
theorem Zb4.set {l:List Int} (h:Zb4 l) (i:Nat) {v:Int} (hv:0≤v∧v≤255):Zb4 (l.set i v):=fun n hn=>by
 rcases List.mem_or_eq_of_mem_set hn with h1|h1
 ·exact h n h1
 ·rw[h1];exact hv
theorem Zr1 {f:List (List Int)} {x:MemM} (h:MemP f x) (a v:Int):MemP f (ZkI f x a v):=by
 have hf:=h.img.lo
 unfold ZkI
 split
 ·exact ⟨h.img,⟨by simp[h.ram.len],h.ram.bytes.set _ (mod256 v)⟩,h.b0,h.b1⟩
 split
 ·exact ⟨h.img,⟨h.ram.len,h.ram.bytes⟩,Int.emod_nonneg _ (by omega),Int.emod_lt_of_pos _ (by omega)⟩
 ·exact h
theorem Zjv (f:List (List Int)) (x:MemM) (a v:Int) (h:MemP f x):r253 (x.t,((f,()),(a,(v,()))))=some ((),((ZkI f x a v).t,())):=by
 have hf:=h.img.lo
 have hl:=h.ram.len
 unfold r253 m253 ZkI
 simp only[Zbu,ZaN,Option.bind_some,Zab,MemM.t]
 have hv:=mod256 v
 rw[Za8 hv.1,Zdh (show (f.length:Int)≠0 by omega)]
 rcases Zex a with ⟨e,h0,h1⟩| ⟨e,h0,h1⟩| ⟨e,h0,h1⟩| ⟨e,h0⟩| ⟨e,h0,h1⟩| ⟨e,h0,h1⟩| ⟨e,h0⟩<;>rw[e]
 ·rw[Zao h0,Zaj (by omega)];rfl
 all_goals rfl
def Zmb (x:MemM) (c:CpuM) (v:Int):MemM:={x with ram:=x.ram.set (256+c.s%256).toNat (v%256)}
def Zma (c:CpuM):CpuM:={c with s:=(c.s-1)%256}
def ZhU (c:CpuM):CpuM:={c with s:=(c.s+1)%256}
def ZjP (x:MemM) (c:CpuM):Int:=rdE .i x.ram (256+(c.s+1)%256)
theorem ZjR {x:MemM} (h:RamP x) (c:CpuM) (v:Int):RamP (Zmb x c v):=⟨by simp[Zmb,h.len],h.bytes.set _ (mod256 v)⟩
theorem ZjQ {c:CpuM} (h:CpuP c):CpuP (Zma c):=⟨h.a,h.x,mod256 _,h.pc⟩
theorem ZhV {c:CpuM} (h:CpuP c):CpuP (ZhU c):=⟨h.a,h.x,mod256 _,h.pc⟩
theorem ZeS (x:MemM) (c:CpuM) (v:Int) (h:RamP x) (hc:CpuP c):r247 (x.t,(c.t,(v,())))=some ((),((Zmb x c v).t,((Zma c).t,()))):=by
 have hl:=h.len
 have hs:=hc.s
 unfold r247 m247 Zmb Zma
 simp only[ZaN,Option.bind_some,Zab,MemM.t,CpuM.t]
 have h1:=mod256 c.s
 rw[ZdJ (by omega),Zau (x:=256+c.s%256) (by omega) (by omega),Zao (by omega),Zaj (by omega),Zau (x:=c.s-1) (by omega) (by omega)]
 rfl
theorem ZeR (x:MemM) (c:CpuM) (h:RamP x) (hc:CpuP c):r272 (x.t,(c.t,()))=some ((ZjP x c,()),(x.t,((ZhU c).t,()))):=by
 have hl:=h.len
 have hs:=hc.s
 unfold r272 m272 ZjP ZhU
 simp only[ZaN,Option.bind_some,Zab,MemM.t,CpuM.t]
 rw[Zau (x:=c.s+1) (by omega) (by omega)]
 have h1:=mod256 (c.s+1)
 rw[ZdJ (by omega),Zau (x:=256+(c.s+1)%256) (by omega) (by omega),Zao (by omega),Zaj (by omega)]
 rfl

end Go.Proofs.YtmlahgmhbdpkjaaGreatDoor.Plain
