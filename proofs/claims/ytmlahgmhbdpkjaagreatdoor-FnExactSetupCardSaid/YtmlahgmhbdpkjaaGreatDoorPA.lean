/- Plain laws of the printed functions: Cp, Obs, Lock, Ok, Ok2, Ok3, Copies, Bytes, Cpu. No condition beyond those that each lemma states. -/
import Derived.Test.YtmlahgmhbdpkjaaGreatDoorX
import Derived.Test.YtmlahgmhbdpkjaaGreatDoorFn0
set_option linter.unusedVariables false
set_option linter.unusedSimpArgs false
namespace Go.Proofs.YtmlahgmhbdpkjaaGreatDoor.Plain
open Go Go.Tev
theorem ZhD (l:List Int) (hl:l.length≤4398046511104): ∀(k i:Nat) (out:List Int),i≤l.length→out.length=l.length→l.length-i<k→
  n6_0 k (l,()) () ((i:Int),(out,()))=some (Sum.inl ((l.length:Int),(out.take i++l.drop i,())),())
 |0,_,_,_,_,h=>absurd h (by omega)
 |k+1,i,out,hi,ho,hk=>by
  unfold n6_0 w6_0
  simp only[Zac]
  by_cases h:i<l.length
  ·rw[Zal (by omega),Zav (by omega),Zal (by omega),Zaq .i l i h,ZaA (by omega)]
   simp only[cond_true,Int.toNat_natCast]
   rw[ZhD l hl k (i+1) _ (by omega) (by simpa using ho) (by omega),Zn9 h ho]
  ·have:i=l.length:=by omega
   subst this
   rw[Zar (by omega),cond_false,List.take_of_length_le (by omega),List.drop_length,List.append_nil]
theorem Zfq (l:List Int) (hl:l.length≤4398046511104):r6 (l,())=some ((l,()),()):=by
 unfold r6 m6 L6_0
 simp only[Zac,Int.toNat_natCast]
 rw[Zjw (by simp only[E.most];omega)]
 have:=ZhD l hl fuel 0 (List.replicate l.length 0) (by omega) (by simp) (by have:=Zap;omega)
 simp only[Int.natCast_zero]at this
 simp only[cond_true,this]
 simp[Zah]
def bulk:List (List Int)→Nat| []=>0|l::f=>l.length+bulk f
def small (f:List (List Int)):Prop:=f.length≤4398046511104∧(∀l,l∈f→l.length≤4398046511104)∧bulk f≤4398046511104
theorem ZgN (a b:List Int) (h1:a.length≤4398046511104) (hab:a.length=b.length): ∀(k i:Nat),i≤a.length→a.length-i<k→
  n9_0 k (a,(b,())) () ((i:Int),())=if a.drop i=b.drop i then some (Sum.inl ((a.length:Int),()),())else some (Sum.inr (false,()),())
 |0,_,_,h=>absurd h (by omega)
 |k+1,i,hi,hk=>by
  unfold n9_0 w9_0
  simp only[Zac]
  by_cases h:i<a.length
  ·have hb:i<b.length:=by omega
   rw[Zal (by omega),Zav (by omega),Zal (by omega),Zaq .i a i h,Zaq .i b i hb,ZaA (by omega)]
   simp only[cond_true]
   rw[Zay h,Zay hb]
   by_cases hx:a[i]=b[i]
   ·rw[Zdl hx,cond_false,ZgN a b h1 hab k (i+1) (by omega) (by omega)]
    simp only[List.cons.injEq,hx,true_and]
   ·rw[ZeO hx,cond_true]
    simp only[List.cons.injEq,hx,false_and,if_false]
  ·have:i=a.length:=by omega
   subst this
   rw[Zar (by omega)]
   simp[hab]
theorem Zdf (a b:List Int) (h1:a.length≤4398046511104):r9 (a,(b,()))=some ((decide (a=b),()),()):=by
 unfold r9 m9 L9_0
 simp only[Zac]
 by_cases h:a.length=b.length
 ·have:=ZgN a b h1 h fuel 0 (by omega) (by have:=Zap;omega)
  simp only[Int.natCast_zero,List.drop_zero]at this
  rw[Zdl (by omega),cond_false,this]
  by_cases e:a=b<;>simp[e,Zah]
 ·rw[ZeO (by omega),cond_true]
  rw[show decide (a=b)=false from decide_eq_false (fun e=>h (by rw[e]))]
theorem Zf0 (a b:List (List Int)) (h1:small a) (hab:a.length=b.length): ∀(k i:Nat),i≤a.length→a.length-i<k→
  n72_0 r9 k (a,(b,())) () ((i:Int),())=if a.drop i=b.drop i then some (Sum.inl ((a.length:Int),()),())else some (Sum.inr (false,()),())
 |0,_,_,h=>absurd h (by omega)
 |k+1,i,hi,hk=>by
  unfold n72_0 w72_0
  simp only[Zac]
  have:=h1.1
  by_cases h:i<a.length
  ·have hb:i<b.length:=by omega
   rw[Zal (by omega),Zav (by omega),Zal (by omega),Zaq .n a i h,Zaq .n b i hb,ZaA (by omega),Zdf _ _ (h1.2.1 _ (List.getElem_mem h))]
   simp only[cond_true,Option.bind_some]
   rw[Zay h,Zay hb]
   by_cases hx:a[i]=b[i]
   ·rw[show (!decide (a[i]=b[i]))=false by simp[hx],cond_false,Zf0 a b h1 hab k (i+1) (by omega) (by omega)]
    simp only[List.cons.injEq,hx,true_and]
   ·rw[show (!decide (a[i]=b[i]))=true by simpa using hx,cond_true]
    simp only[List.cons.injEq,hx,false_and,if_false]
  ·have:i=a.length:=by omega
   subst this
   rw[Zar (by omega)]
   simp[hab]
theorem Zh7 (a b:List (List Int)) (h1:small a):r72 (a,(b,()))=some ((decide (a=b),()),()):=by
 unfold r72 m72 L72_0
 simp only[Zac]
 have:=h1.1
 by_cases h:a.length=b.length
 ·have:=Zf0 a b h1 h fuel 0 (by omega) (by have:=Zap;omega)
  simp only[Int.natCast_zero,List.drop_zero]at this
  rw[Zdl (by omega),cond_false,this]
  by_cases e:a=b<;>simp[e,Zah]
 ·rw[ZeO (by omega),cond_true]
  rw[show decide (a=b)=false from decide_eq_false (fun e=>h (by rw[e]))]
def left (n:Int) (k:Nat):Int:=if n< (k:Int)then-1 else n-(k:Int)
abbrev obsL:List LT:=[.sl false .n, .sl false .i, .sl false .i]
def ZpG (a:Tup obsL):Prop:=small a.1∧a.2.1.length≤4398046511104∧a.2.2.1.length≤4398046511104
abbrev memL:List LT:=[.sl false .i, .int .i64]
abbrev cpuL:List LT:=[.int .i64, .int .i64, .int .i64, .int .i64, .bool, .bool, .bool, .bool]
abbrev ppuL:List LT:=[.int .i64, .int .i64, .int .i64, .int .i64, .int .i64, .bool, .sl false .i, .sl false .i]
abbrev apuL:List LT:=[.int .i64, .int .i64, .int .i64, .int .i64, .int .i64, .bool, .bool]
abbrev padL:List LT:=[.bool, .int .i64]
abbrev ZoQ:List LT:= .sl false .n:: .sl false .i::(memL++(cpuL++(ppuL++(apuL++(padL++(.bool:: .int .i64::obsL))))))
def ZeA (a:Tup ppuL):Prop:=a.2.2.2.2.2.2.1.length≤4398046511104∧a.2.2.2.2.2.2.2.1.length≤4398046511104
section
variable (a:Tup ZoQ)
abbrev ZpF:Tup ppuL:=(a.2.2.2.2.2.2.2.2.2.2.2.2.1,(a.2.2.2.2.2.2.2.2.2.2.2.2.2.1,(a.2.2.2.2.2.2.2.2.2.2.2.2.2.2.1,(a.2.2.2.2.2.2.2.2.2.2.2.2.2.2.2.1,(a.2.2.2.2.2.2.2.2.2.2.2.2.2.2.2.2.1,(a.2.2.2.2.2.2.2.2.2.2.2.2.2.2.2.2.2.1,(a.2.2.2.2.2.2.2.2.2.2.2.2.2.2.2.2.2.2.1,(a.2.2.2.2.2.2.2.2.2.2.2.2.2.2.2.2.2.2.2.1,()))))))))
abbrev ZpE:Tup obsL:=a.2.2.2.2.2.2.2.2.2.2.2.2.2.2.2.2.2.2.2.2.2.2.2.2.2.2.2.2.2.2.2
end
def ZoR (a:Tup ZoQ):Prop:=small a.1∧a.2.1.length≤4398046511104∧a.2.2.1.length≤4398046511104∧ZeA (ZpF a)∧ZpG (ZpE a)
def inR (lo hi n:Int):Bool:=leI lo n&&leI n hi
def allR (lo hi:Int) (l:List Int):Bool:=l.all (inR lo hi)
theorem Zbd {lo hi n:Int}:inR lo hi n=true↔lo≤n∧n≤hi:=by simp[inR,leI]
theorem Za9 (y:PTup i52):r52 y=some ((inR y.2.1 y.2.2.1 y.1,()),()):=by
 unfold r52 m52
 simp only[ZaM]
 rfl
theorem Zbe (y:PTup i111):r111 y=some ((inR y.2.1 y.2.2.1 y.1,()),()):=by
 unfold r111 m111
 simp only[ZaM]
 rfl
theorem ZcF (y:PTup i50):r50 y=some ((inR 0 255 y.1,()),()):=by
 unfold r50 m50
 simp only[Za9,Option.bind_some]
theorem ZbQ (y:PTup i121):r121 y=some ((inR 0 255 y.1,()),()):=by
 unfold r121 m121
 simp only[Zbe,Option.bind_some]
theorem Ze6 (y:PTup i51):r51 y=some ((inR 0 20000 y.1,()),()):=by
 unfold r51 m51
 simp only[Za9,Option.bind_some]
theorem Zec (l:List Int) (hl:l.length≤4611686018427387904):r93 (l,())=some ((allR 0 255 l,()),()):=by
 have key:=ZaD (fun k i=>n93_0 r50 k (l,((l.length:Int),())) () ((i:Int),())) l (inR 0 255) (Sum.inl ((l.length:Int),()),()) (Sum.inr (false,()),())
  (fun k i h hq=>by
   simp only[n93_0,w93_0,Zac]
   rw[Zal (by omega),Zav (by omega),Zaq .i l i h,ZcF,ZaA (by omega)]
   simp only[cond_true,Option.bind_some,hq,Bool.not_true,cond_false])
  (fun k i h hq=>by
   simp only[n93_0,w93_0,Zac]
   rw[Zal (by omega),Zav (by omega),Zaq .i l i h,ZcF]
   simp only[cond_true,Option.bind_some,hq,Bool.not_false])
  (fun k=>by
   simp only[n93_0,w93_0,Zac]
   rw[Zar (by omega)];rfl) fuel 0 (by omega) (by have:=Zap;omega)
 unfold r93 m93 L93_0
 simp only[Zac]
 simp only[Int.natCast_zero,List.drop_zero]at key
 rw[key]
 unfold allR
 cases l.all (inR 0 255)<;>rfl
theorem ZgI (l:List Int) (hl:l.length≤4611686018427387904):r138 (l,())=some ((allR 0 63 l,()),()):=by
 have key:=ZaD (fun k i=>n138_0 r52 k (l,((l.length:Int),())) () ((i:Int),())) l (inR 0 63) (Sum.inl ((l.length:Int),()),()) (Sum.inr (false,()),())
  (fun k i h hq=>by
   simp only[n138_0,w138_0,Zac]
   rw[Zal (by omega),Zav (by omega),Zaq .i l i h,Za9,ZaA (by omega)]
   simp only[cond_true,Option.bind_some,hq,Bool.not_true,cond_false])
  (fun k i h hq=>by
   simp only[n138_0,w138_0,Zac]
   rw[Zal (by omega),Zav (by omega),Zaq .i l i h,Za9]
   simp only[cond_true,Option.bind_some,hq,Bool.not_false])
  (fun k=>by
   simp only[n138_0,w138_0,Zac]
   rw[Zar (by omega)];rfl) fuel 0 (by omega) (by have:=Zap;omega)
 unfold r138 m138 L138_0
 simp only[Zac]
 simp only[Int.natCast_zero,List.drop_zero]at key
 rw[key]
 unfold allR
 cases l.all (inR 0 63)<;>rfl
def Zfd (l:List Int):Bool:=leI (l.length:Int) 20&&allR 0 255 l
theorem ZiG (l:List Int) (hl:l.length≤4611686018427387904):r46 (l,())=some ((Zfd l,()),()):=by
 unfold r46 m46
 simp only[Zec l hl,Option.bind_some,Zac,ZaM]
 rfl
theorem ZiT (l:List Int) (hl:l.length≤4611686018427387904):r116 (l,())=some ((Zfd l,()),()):=by
 have key:=ZaD (fun k i=>n116_0 r121 k (l,()) () ((i:Int),())) l (inR 0 255) (Sum.inl ((l.length:Int),()),()) (Sum.inr (false,()),())
  (fun k i h hq=>by
   simp only[n116_0,w116_0,Zac]
   rw[Zal (by omega),Zav (by omega),Zaq .i l i h,ZbQ,ZaA (by omega)]
   simp only[cond_true,Option.bind_some,hq,Bool.not_true,cond_false])
  (fun k i h hq=>by
   simp only[n116_0,w116_0,Zac]
   rw[Zal (by omega),Zav (by omega),Zaq .i l i h,ZbQ]
   simp only[cond_true,Option.bind_some,hq,Bool.not_false])
  (fun k=>by
   simp only[n116_0,w116_0,Zac]
   rw[Zar (by omega)];rfl) fuel 0 (by omega) (by have:=Zap;omega)
 unfold r116 m116 L116_0
 simp only[Zac]
 simp only[Int.natCast_zero,List.drop_zero]at key
 rw[key]
 unfold Zfd allR
 cases l.all (inR 0 255)<;>simp[Zah]
def ZdT (l:List Int):Bool:=eqI (l.length:Int) 256&&allR 0 255 l
def Zdy (f:List (List Int)):Bool:=f.all ZdT&&inR 1 8 (f.length:Int)
theorem ZhM (f:List (List Int)) (hf:small f):r92 ((f,()),())=some ((Zdy f,()),()):=by
 have h0:=hf.1
 have key:=ZaD (fun k i=>n92_0 r93 r52 k (f,((f.length:Int),())) () ((i:Int),())) f ZdT (Sum.inl ((f.length:Int),()),()) (Sum.inr (false,()),())
  (fun k i h hq=>by
   have hl:=hf.2.1 _ (List.getElem_mem h)
   simp only[ZdT,Bool.and_eq_true]at hq
   simp only[n92_0,w92_0,Zac]
   rw[Zal (by omega),Zav (by omega),Zaq .n f i h,Zec _ (by omega),ZaA (by omega)]
   have h1:(f[i].length:Int)=256:=by simpa [Ziy] using hq.1
   rw[Zdl h1]
   simp only[cond_true,Option.bind_some,hq.2,Bool.not_true,cond_false])
  (fun k i h hq=>by
   have hl:=hf.2.1 _ (List.getElem_mem h)
   simp only[n92_0,w92_0,Zac]
   rw[Zal (by omega),Zav (by omega),Zaq .n f i h,Zec _ (by omega)]
   by_cases h1:(f[i].length:Int)=256
   ·rw[Zdl h1]
    simp only[ZdT,ZcK h1,Bool.true_and]at hq
    simp only[cond_true,Option.bind_some,hq,Bool.not_false,cond_false]
   ·rw[ZeO h1]
    simp only[cond_true])
  (fun k=>by
   simp only[n92_0,w92_0,Zac]
   rw[Zar (by omega)];rfl) fuel 0 (by omega) (by have:=Zap;omega)
 unfold r92 m92 L92_0
 simp only[Zac]
 simp only[Int.natCast_zero,List.drop_zero]at key
 rw[key]
 unfold Zdy
 cases f.all ZdT<;>simp[Zah,Za9]
theorem Zfm (f:List (List Int)) (i:Nat) (h:i<f.length) (hl:(f[i].length:Int)=256):
  L154_0 ((i:Int),()) ((f,()),()) ((0:Int),())=some (if f[i].all (inR 0 255)then (Sum.inl ((256:Int),()),((f,()),()))else (Sum.inr (false,()),((f,()),()))):=by
 have key:=ZaD (fun k j=>n154_0 r111 k ((i:Int),()) ((f,()),()) ((j:Int),())) f[i] (inR 0 255) (Sum.inl ((256:Int),()),((f,()),())) (Sum.inr (false,()),((f,()),()))
  (fun k j hj hq=>by
   simp only[n154_0,w154_0,Zac]
   rw[Zaq .n f i h,Zal (show (j:Int)<256 by omega),Zav (show (0:Int)≤(i:Int) by omega),Zal (show (i:Int)< (f.length:Int) by omega),Zav (show (0:Int)≤(j:Int) by omega),Zal (by omega),ZaA (by omega),
    show rdI f[i] (j:Int)=f[i][j] by simp[rdI,List.getD,hj],Zbe]
   simp only[cond_true,Option.bind_some,hq,Bool.not_true,cond_false])
  (fun k j hj hq=>by
   simp only[n154_0,w154_0,Zac]
   rw[Zaq .n f i h,Zal (show (j:Int)<256 by omega),Zav (show (0:Int)≤(i:Int) by omega),Zal (show (i:Int)< (f.length:Int) by omega),Zav (show (0:Int)≤(j:Int) by omega),Zal (by omega),
    show rdI f[i] (j:Int)=f[i][j] by simp[rdI,List.getD,hj],Zbe]
   simp only[cond_true,Option.bind_some,hq,Bool.not_false])
  (fun k=>by
   simp only[n154_0,w154_0,Zac]
   rw[Zar (by omega)]
   simp only[cond_false,hl]) fuel 0 (by omega) (by have:=Zap;omega)
 exact key
theorem ZhW (f:List (List Int)) (hf:small f):r154 ((f,()),())=some ((Zdy f,()),()):=by
 have h0:=hf.1
 have key:=ZaD (fun k i=>n154_1 r111 L154_0 k () ((f,()),()) ((i:Int),())) f ZdT (Sum.inl ((f.length:Int),()),((f,()),())) (Sum.inr (false,()),((f,()),()))
  (fun k i h hq=>by
   simp only[ZdT,Bool.and_eq_true,allR]at hq
   have h1:(f[i].length:Int)=256:=by simpa [Ziy] using hq.1
   simp only[n154_1,w154_1,Zac]
   rw[Zal (by omega),Zav (by omega),Zaq .n f i h,ZaA (by omega),Zdl h1,Zfm f i h h1,hq.2]
   simp only[cond_true,cond_false,Option.bind_some,if_true,Zah])
  (fun k i h hq=>by
   simp only[n154_1,w154_1,Zac]
   rw[Zal (by omega),Zav (by omega),Zaq .n f i h]
   by_cases h1:(f[i].length:Int)=256
   ·rw[Zdl h1,Zfm f i h h1]
    simp only[ZdT,ZcK h1,Bool.true_and,allR]at hq
    rw[hq]
    simp only[cond_true,cond_false,Option.bind_some,Zah,Bool.false_eq_true,if_false]
   ·rw[ZeO h1]
    simp only[cond_true])
  (fun k=>by
   simp only[n154_1,w154_1,Zac]
   rw[Zar (by omega)];rfl) fuel 0 (by omega) (by have:=Zap;omega)
 unfold r154 m154 L154_1
 simp only[Zac]
 simp only[Int.natCast_zero,List.drop_zero]at key
 rw[key]
 unfold Zdy
 cases f.all ZdT<;>simp[Zah,Zbe]
def ZhR (f:List (List Int)) (x:Tup memL):Bool:=Zdy f&&(eqI (x.1.length:Int) 512&&(allR 0 255 x.1&&inR 0 ((f.length:Int)-1) x.2.1))
theorem ZdY (f:List (List Int)) (x:Tup memL) (hf:small f) (hx:x.1.length≤4398046511104):r45 ((f,()),(x,()))=some ((ZhR f x,()),()):=by
 unfold r45 m45
 have:=hf.1
 simp only[ZhM f hf,Zec x.1 (by omega),Za9,Option.bind_some,Zac,ZaM]
 rw[Zbk (by omega) (by omega)]
 rfl
theorem Zd8 (f:List (List Int)) (x:Tup memL) (hf:small f) (hx:x.1.length≤4398046511104):r117 ((f,()),(x,()))=some ((ZhR f x,()),()):=by
 unfold r117 m117
 have:=hf.1
 simp only[ZhW f hf,Zbe,Option.bind_some,Zac]
 rw[Zbk (by omega) (by omega)]
 unfold ZhR
 cases Zdy f with
 |false=>rfl
 |true=>
  simp only[Bool.not_true,cond_false,Bool.true_and]
  by_cases h1:(x.1.length:Int)=512
  ·rw[Zdl h1,ZcK h1]
   simp only[cond_false,Bool.true_and]
   cases h2:inR 0 ((f.length:Int)-1) x.2.1 with
   |false=>simp
   |true=>
    have key:=ZaD (fun k i=>n117_0 r154 r111 r121 k () (x,()) ((i:Int),())) x.1 (inR 0 255) (Sum.inl ((512:Int),()),(x,())) (Sum.inr (false,()),(x,()))
     (fun k i h hq=>by
      simp only[n117_0,w117_0,Zac]
      rw[Zal (show (i:Int)<512 by omega),Zav (by omega),Zal (by omega),Zaq .i x.1 i h,ZbQ,ZaA (by omega)]
      simp only[cond_true,Option.bind_some,hq,Bool.not_true,cond_false])
     (fun k i h hq=>by
      simp only[n117_0,w117_0,Zac]
      rw[Zal (show (i:Int)<512 by omega),Zav (by omega),Zal (by omega),Zaq .i x.1 i h,ZbQ]
      simp only[cond_true,Option.bind_some,hq,Bool.not_false])
     (fun k=>by
      simp only[n117_0,w117_0,Zac]
      rw[Zar (by omega)]
      simp only[cond_false,h1]) fuel 0 (by omega) (by have:=Zap;omega)
    unfold L117_0
    simp only[Int.natCast_zero,List.drop_zero]at key
    simp only[Bool.not_true,cond_false]
    rw[key]
    unfold allR
    cases x.1.all (inR 0 255)<;>simp[Zah]
  ·rw[ZeO h1,ZcD h1]
   rfl
def Zkk (c:Tup cpuL):Bool:=inR 0 255 c.1&&(inR 0 255 c.2.1&&(inR 0 255 c.2.2.1&&inR 0 65535 c.2.2.2.1))
theorem Zjm (c:Tup cpuL):r47 (c,())=some ((Zkk c,()),()):=by
 unfold r47 m47
 simp only[ZcF,Za9,Option.bind_some,ZaM]
 rfl
theorem ZjW (c:Tup cpuL):r118 (c,())=some ((Zkk c,()),()):=by
 unfold r118 m118
 simp only[ZbQ,Zbe,Option.bind_some,ZaM]
 rfl
def ZhI (a:Tup apuL):Bool:=inR 0 20000 a.1&&(inR 0 255 a.2.1&&(inR 0 255 a.2.2.1&&(inR 0 1 a.2.2.2.1&&inR 0 31 a.2.2.2.2.1)))
theorem Zjk (a:Tup apuL):r97 (a,())=some ((ZhI a,()),()):=by
 unfold r97 m97
 simp only[Ze6,ZcF,Za9,Option.bind_some,ZaM]
 rfl
theorem ZjU (a:Tup apuL):r158 (a,())=some ((ZhI a,()),()):=by
 unfold r158 m158
 simp only[ZbQ,Zbe,Option.bind_some,ZaM]
 rfl
def Zjb (t:Int):Int:=if 48<Int.tmod t 64 then 0 else Int.tmod t 64
def ZjI (p:Tup ppuL):Bool:=inR 0 20000 p.1&&(inR 0 255 p.2.1&&(inR 0 255 p.2.2.1&&(inR 0 15 p.2.2.2.1&&inR 0 63 p.2.2.2.2.1)))
def Zhi (p:Tup ppuL):Bool:=eqI (p.2.2.2.2.2.2.1.length:Int) 16&&(allR 0 63 p.2.2.2.2.2.2.1&&(eqI (p.2.2.2.2.2.2.2.1.length:Int) (Zjb p.1)&&allR 0 63 p.2.2.2.2.2.2.2.1))
def Zgn (p:Tup ppuL):Bool:=ZjI p&&Zhi p
theorem Zjo (p:Tup ppuL) (h:ZeA p):r94 (p,())=some ((Zgn p,()),()):=by
 unfold r94 m94
 obtain ⟨h1,h2⟩:=h
 have hd:r138 p.2.2.2.2.2.2.2=some ((allR 0 63 p.2.2.2.2.2.2.2.1,()),()):=ZgI p.2.2.2.2.2.2.2.1 (by omega)
 simp only[Ze6,ZcF,Za9,ZgI p.2.2.2.2.2.2.1 (by omega),hd,Zac,Option.bind_some]
 unfold Zgn ZjI Zhi Zjb
 by_cases h48:48<Int.tmod p.1 64
 ·rw[Zal h48,if_pos h48]
  simp only[cond_true,ZaM,ZcC,Bool.and_assoc]
 ·rw[Zar h48,if_neg h48]
  simp only[cond_false,ZaM,ZcC,Bool.and_assoc]
theorem Zj1 (p:Tup ppuL) (h16:(p.2.2.2.2.2.2.1.length:Int)=16):
  L155_1 () (p,()) ((0:Int),())=some (if p.2.2.2.2.2.2.1.all (inR 0 63)then (Sum.inl ((16:Int),()),(p,()))else (Sum.inr (false,()),(p,()))):=by
 have key:=ZaD (fun k i=>n155_1 r111 r121 r192 L155_0 k () (p,()) ((i:Int),())) p.2.2.2.2.2.2.1 (inR 0 63) (Sum.inl ((16:Int),()),(p,())) (Sum.inr (false,()),(p,()))
  (fun k i h hq=>by
   simp only[n155_1,w155_1,Zac]
   rw[Zal (show (i:Int)<16 by omega),Zav (by omega),Zal (by omega),Zaq .i p.2.2.2.2.2.2.1 i h,Zbe,ZaA (by omega)]
   simp only[cond_true,Option.bind_some,hq,Bool.not_true,cond_false])
  (fun k i h hq=>by
   simp only[n155_1,w155_1,Zac]
   rw[Zal (show (i:Int)<16 by omega),Zav (by omega),Zal (by omega),Zaq .i p.2.2.2.2.2.2.1 i h,Zbe]
   simp only[cond_true,Option.bind_some,hq,Bool.not_false])
  (fun k=>by
   simp only[n155_1,w155_1,Zac]
   rw[Zar (by omega)]
   simp only[cond_false,h16]) fuel 0 (by omega) (by have:=Zap;omega)
 exact key
theorem ZkT (p:Tup ppuL) (hl:p.2.2.2.2.2.2.2.1.length≤4398046511104):
  L155_0 () (p,()) ((0:Int),())=some (if p.2.2.2.2.2.2.2.1.all (inR 0 63)then (Sum.inl ((p.2.2.2.2.2.2.2.1.length:Int),()),(p,()))else (Sum.inr (false,()),(p,()))):=by
 have key:=ZaD (fun k i=>n155_0 r111 r121 r192 k () (p,()) ((i:Int),())) p.2.2.2.2.2.2.2.1 (inR 0 63) (Sum.inl ((p.2.2.2.2.2.2.2.1.length:Int),()),(p,())) (Sum.inr (false,()),(p,()))
  (fun k i h hq=>by
   simp only[n155_0,w155_0,Zac]
   rw[Zal (show (i:Int)<_ by omega),Zav (by omega),Zaq .i p.2.2.2.2.2.2.2.1 i h,Zbe,ZaA (by omega)]
   simp only[cond_true,Option.bind_some,hq,Bool.not_true,cond_false])
  (fun k i h hq=>by
   simp only[n155_0,w155_0,Zac]
   rw[Zal (show (i:Int)<_ by omega),Zav (by omega),Zaq .i p.2.2.2.2.2.2.2.1 i h,Zbe]
   simp only[cond_true,Option.bind_some,hq,Bool.not_false])
  (fun k=>by
   simp only[n155_0,w155_0,Zac]
   rw[Zar (by omega)]
   rfl) fuel 0 (by omega) (by have:=Zap;omega)
 exact key
theorem ZjY (p:Tup ppuL) (h:ZeA p):r155 (p,())=some ((Zgn p,()),()):=by
 unfold r155 m155
 obtain ⟨h1,h2⟩:=h
 have hd:r192 (p.1,())=some ((Zjb p.1,()),()):=by
  unfold r192 m192 Zjb
  by_cases h48:48<Int.tmod p.1 64
  ·simp only[Zal h48,cond_true,h48,if_true]
  ·simp only[Zar h48,cond_false,h48,if_false]
 have hrest:(bif neI (p.2.2.2.2.2.2.1.length:Int) 16 then some ((false,()),())else
   bif neI (p.2.2.2.2.2.2.2.1.length:Int) (Zjb p.1)then some ((false,()),())
   else (L155_1 () (p,()) ((0:Int),())).bind fun r6=>Zah r6.1 (fun r7=>(L155_0 () ((r6.2.1.1,(r6.2.1.2.1,(r6.2.1.2.2.1,(r6.2.1.2.2.2.1,(r6.2.1.2.2.2.2.1,(r6.2.1.2.2.2.2.2.1,p.2.2.2.2.2.2)))))),()) ((0:Int),())).bind fun r8=>
    Zah r8.1 (fun r9=>some ((true,()),())) (fun r9=>some (r9,()))) (fun r7=>some (r7,())))=some ((Zhi p,()),()):=by
  unfold Zhi
  by_cases h16:(p.2.2.2.2.2.2.1.length:Int)=16
  ·rw[Zdl h16,ZcK h16,cond_false]
   by_cases hdn:(p.2.2.2.2.2.2.2.1.length:Int)=Zjb p.1
   ·rw[Zdl hdn,ZcK hdn,cond_false,Zj1 p h16]
    unfold allR
    cases p.2.2.2.2.2.2.1.all (inR 0 63)with
    |false=>rfl
    |true=>
     simp only[if_true,Option.bind_some,Zah]
     rw[show ((p.1,(p.2.1,(p.2.2.1,(p.2.2.2.1,(p.2.2.2.2.1,(p.2.2.2.2.2.1,p.2.2.2.2.2.2)))))):Tup ppuL)=p from rfl,ZkT p h2]
     cases p.2.2.2.2.2.2.2.1.all (inR 0 63)<;>rfl
   ·rw[ZeO hdn,ZcD hdn,cond_true]
    simp
  ·rw[ZeO h16,ZcD h16,cond_true]
   rfl
 simp only[Zbe,ZbQ,hd,Zac,Option.bind_some]
 rw[hrest]
 simp only[ZcC]
 unfold Zgn ZjI
 simp only[Bool.and_assoc]
abbrev Zb5:List LT:=[.int .i64, .sl false .t]
def Zd4 (l:List (Int×Int×Int)) (i:Nat):Bool:=inR 0 20000 (rdE .t l (i:Int)).1&&(inR 0 7 (rdE .t l (i:Int)).2.1&&(inR 0 255 (rdE .t l (i:Int)).2.2&&(decide (i=0)|| !ltI (rdE .t l (i:Int)).1 (rdE .t l ((i-1:Nat):Int)).1)))
def ZcW (r:Tup Zb5):Bool:=(List.range' 0 r.2.1.length).all (Zd4 r.2.1)&&(inR 1 16 r.1&&leI (r.2.1.length:Int) r.1)
theorem ZiX {i:Nat} (h:i≠0) (h2:i<9223372036854775807):wI ((i:Int)-1)=((i-1:Nat):Int):=by
 rw[Zbk (by omega) (by omega)];omega
theorem Zex (r:Tup Zb5) (hl:r.2.1.length≤4398046511104) (k i:Nat) (h:i<r.2.1.length):
  n123_0 r50 r51 r52 (k+1) (r.2.1,((r.2.1.length:Int),())) (r,()) ((i:Int),())=
   bif Zd4 r.2.1 i then n123_0 r50 r51 r52 k (r.2.1,((r.2.1.length:Int),())) (r,()) (((i+1:Nat):Int),())else some (Sum.inr (false,()),(r,())):=by
 simp only[n123_0,w123_0,Zac]
 rw[Zal (show (i:Int)<_ by omega),Zav (show (0:Int)≤(i:Int) by omega),ZaA (by omega)]
 simp only[cond_true,Ze6,Za9,ZcF,Option.bind_some]
 unfold Zd4
 generalize inR 0 20000 (rdE .t r.2.1 (i:Int)).1=x1
 generalize inR 0 7 (rdE .t r.2.1 (i:Int)).2.1=x2
 generalize inR 0 255 (rdE .t r.2.1 (i:Int)).2.2=x3
 by_cases h0:i=0
 ·subst h0
  rw[Zar (by omega)]
  cases x1<;>cases x2<;>cases x3<;>rfl
 ·rw[Zal (by omega),ZiX h0 (by omega),Zav (by omega),Zal (by omega),decide_eq_false h0]
  generalize ltI (rdE .t r.2.1 (i:Int)).1 (rdE .t r.2.1 ((i-1:Nat):Int)).1=x4
  cases x1<;>cases x2<;>cases x3<;>cases x4<;>rfl
theorem Ze5 (r:Tup Zb5) (hl:r.2.1.length≤4398046511104):r123 (r,())=some ((ZcW r,()),()):=by
 have key:=ZdQ (fun k i=>n123_0 r50 r51 r52 k (r.2.1,((r.2.1.length:Int),())) (r,()) ((i:Int),())) r.2.1.length (Zd4 r.2.1) (Sum.inl ((r.2.1.length:Int),()),(r,())) (Sum.inr (false,()),(r,()))
  (fun k i h hq=>by simp only[Zex r hl k i h,hq,cond_true])
  (fun k i h hq=>by simp only[Zex r hl k i h,hq,cond_false])
  (fun k=>by
   simp only[n123_0,w123_0,Zac]
   rw[Zar (by omega)];rfl) fuel 0 (by omega) (by have:=Zap;omega)
 unfold r123 m123 L123_0
 simp only[Zac]
 simp only[Int.natCast_zero,Nat.sub_zero]at key
 rw[key]
 unfold ZcW
 cases (List.range' 0 r.2.1.length).all (Zd4 r.2.1)with
 |false=>rfl
 |true=>simp only[if_true,Option.bind_some,Zah,Za9,ZaM,Bool.true_and]
theorem ZeC (r:Tup Zb5) (hl:r.2.1.length≤4398046511104) (k i:Nat) (h:i<r.2.1.length):
  n156_0 r111 r121 (k+1) () (r,()) ((i:Int),())=
   bif Zd4 r.2.1 i then n156_0 r111 r121 k () (r,()) (((i+1:Nat):Int),())else some (Sum.inr (false,()),(r,())):=by
 simp only[n156_0,w156_0,Zac]
 rw[Zal (show (i:Int)<_ by omega),Zav (show (0:Int)≤(i:Int) by omega),ZaA (by omega)]
 simp only[cond_true,Zbe,ZbQ,Option.bind_some]
 unfold Zd4
 generalize inR 0 20000 (rdE .t r.2.1 (i:Int)).1=x1
 generalize inR 0 7 (rdE .t r.2.1 (i:Int)).2.1=x2
 generalize inR 0 255 (rdE .t r.2.1 (i:Int)).2.2=x3
 by_cases h0:i=0
 ·subst h0
  rw[Zar (by omega)]
  cases x1<;>cases x2<;>cases x3<;>rfl
 ·rw[Zal (by omega),ZiX h0 (by omega),Zav (by omega),Zal (by omega),decide_eq_false h0]
  generalize ltI (rdE .t r.2.1 (i:Int)).1 (rdE .t r.2.1 ((i-1:Nat):Int)).1=x4
  cases x1<;>cases x2<;>cases x3<;>cases x4<;>rfl
theorem Zfn (r:Tup Zb5) (hl:r.2.1.length≤4398046511104):r156 (r,())=some ((ZcW r,()),()):=by
 have key:=ZdQ (fun k i=>n156_0 r111 r121 k () (r,()) ((i:Int),())) r.2.1.length (Zd4 r.2.1) (Sum.inl ((r.2.1.length:Int),()),(r,())) (Sum.inr (false,()),(r,()))
  (fun k i h hq=>by simp only[ZeC r hl k i h,hq,cond_true])
  (fun k i h hq=>by simp only[ZeC r hl k i h,hq,cond_false])
  (fun k=>by
   simp only[n156_0,w156_0,Zac]
   rw[Zar (by omega)];rfl) fuel 0 (by omega) (by have:=Zap;omega)
 unfold r156 m156 L156_0
 simp only[Zac]
 simp only[Int.natCast_zero,Nat.sub_zero]at key
 rw[key]
 unfold ZcW
 cases (List.range' 0 r.2.1.length).all (Zd4 r.2.1)with
 |false=>rfl
 |true=>simp only[if_true,Option.bind_some,Zah,Zbe,ZaM,Bool.true_and]
def ZcT (r:Tup Zb5) (t:Int):Bool:=if r.2.1.length=0 then true else leI t (rdE .t r.2.1 (0:Int)).1
theorem Zhn (r:Tup Zb5) (t:Int) (hl:r.2.1.length≤4398046511104):r95 (r,(t,()))=some ((ZcW r&&ZcT r t,()),()):=by
 unfold r95 m95
 simp only[Ze5 r hl,Option.bind_some,Zac]
 unfold ZcT
 cases ZcW r with
 |false=>rfl
 |true=>
  by_cases h:r.2.1.length=0
  ·rw[ZcK (by omega),if_pos h];rfl
  ·rw[ZcD (by omega),if_neg h,Zal (by omega)];rfl
def ZcQ (f:List (List Int)) (t:Int):Bool:=f.all (fun l=>eqI (l.length:Int) 48)&&eqI (f.length:Int) (Int.tdiv (t+15) 64)
theorem ZiW {t c d:Int} (h0:0≤t) (h1:t≤20000) (hc:0≤c) (hc2:c≤64) (hd:d=64∨d=16):wI (Int.tdiv (t+c) d)=Int.tdiv (t+c) d:=by
 rw[Int.tdiv_eq_ediv_of_nonneg (by omega)]
 rcases hd with rfl|rfl<;>exact Zbk (by omega) (by omega)
theorem Zg1 (f:List (List Int)) (t:Int) (hf:f.length≤4398046511104) (h0:0≤t) (h1:t≤20000):r96 (f,(t,()))=some ((ZcQ f t,()),()):=by
 have key:=ZaD (fun k i=>n96_0 r139 k (f,((f.length:Int),())) () ((i:Int),())) f (fun l=>eqI (l.length:Int) 48) (Sum.inl ((f.length:Int),()),()) (Sum.inr (false,()),())
  (fun k i h hq=>by
   simp only[n96_0,w96_0,Zac]
   rw[Zal (by omega),Zav (by omega),Zaq .n f i h,ZaA (by omega)]
   have:(f[i].length:Int)=48:=by simpa [Ziy] using hq
   rw[Zdl this]
   simp only[cond_true,cond_false])
  (fun k i h hq=>by
   simp only[n96_0,w96_0,Zac]
   rw[Zal (by omega),Zav (by omega),Zaq .n f i h]
   have: ¬(f[i].length:Int)=48:=by simpa [Ziy] using hq
   rw[ZeO this]
   simp only[cond_true])
  (fun k=>by
   simp only[n96_0,w96_0,Zac]
   rw[Zar (by omega)];rfl) fuel 0 (by omega) (by have:=Zap;omega)
 unfold r96 m96 L96_0
 simp only[Zac]
 simp only[Int.natCast_zero,List.drop_zero]at key
 rw[key]
 unfold ZcQ
 cases f.all (fun l=>eqI (l.length:Int) 48)with
 |false=>rfl
 |true=>
  have hc:r139 (t,((48:Int),((64:Int),())))=some ((Int.tdiv (t+15) 64,()),()):=by
   unfold r139 m139
   simp only
   rw[ZeO (by omega),Zbk (x:=t+64) (by omega) (by omega),Zbk (x:=t+64-1) (by omega) (by omega),Zbk (x:=t+64-1-48) (by omega) (by omega),show t+64-1-48=t+15 by omega,ZiW h0 h1 (by omega) (by omega) (.inl rfl)]
   rfl
  simp only[if_true,Option.bind_some,Zah,hc,Bool.true_and]
theorem Zht (f:List (List Int)) (t:Int) (hf:f.length≤4398046511104) (h0:0≤t) (h1:t≤20000):r157 (f,(t,()))=some ((ZcQ f t,()),()):=by
 have key:=ZaD (fun k i=>n157_0 r193 k (f,()) () ((i:Int),())) f (fun l=>eqI (l.length:Int) 48) (Sum.inl ((f.length:Int),()),()) (Sum.inr (false,()),())
  (fun k i h hq=>by
   simp only[n157_0,w157_0,Zac]
   rw[Zal (by omega),Zav (by omega),Zaq .n f i h,ZaA (by omega)]
   have:(f[i].length:Int)=48:=by simpa [Ziy] using hq
   rw[Zdl this]
   simp only[cond_true,cond_false])
  (fun k i h hq=>by
   simp only[n157_0,w157_0,Zac]
   rw[Zal (by omega),Zav (by omega),Zaq .n f i h]
   have: ¬(f[i].length:Int)=48:=by simpa [Ziy] using hq
   rw[ZeO this]
   simp only[cond_true])
  (fun k=>by
   simp only[n157_0,w157_0,Zac]
   rw[Zar (by omega)];rfl) fuel 0 (by omega) (by have:=Zap;omega)
 unfold r157 m157 L157_0
 simp only[Zac]
 simp only[Int.natCast_zero,List.drop_zero]at key
 rw[key]
 unfold ZcQ
 cases f.all (fun l=>eqI (l.length:Int) 48)with
 |false=>rfl
 |true=>
  have hc:r193 (t,())=some ((Int.tdiv (t+15) 64,()),()):=by
   unfold r193 m193
   simp only
   rw[Zbk (x:=t+64) (by omega) (by omega),Zbk (x:=t+64-48) (by omega) (by omega),Zbk (x:=t+64-48-1) (by omega) (by omega),show t+64-48-1=t+15 by omega,ZiW h0 h1 (by omega) (by omega) (.inl rfl)]
  simp only[if_true,Option.bind_some,Zah,hc,Bool.true_and]
def Zdn (s:List Int) (t:Int):Bool:=eqI (s.length:Int) (Int.tdiv t 16)
theorem Zgj (s:List Int) (t:Int) (h0:0≤t) (h1:t≤20000):r98 (s,(t,()))=some ((Zdn s t,()),()):=by
 unfold r98 m98 r139 m139
 simp only
 rw[ZeO (by omega),Zbk (x:=t+16) (by omega) (by omega),Zbk (x:=t+16-1) (by omega) (by omega),Zbk (x:=t+16-1-15) (by omega) (by omega),show t+16-1-15=t+0 by omega,ZiW h0 h1 (by omega) (by omega) (.inr rfl),Int.add_zero]
 rfl
abbrev picL:List LT:=ppuL++(Zb5++[.sl false .n])
abbrev sndL:List LT:=apuL++(Zb5++[.sl false .i])
abbrev ZcL (w:Tup picL):Tup ppuL:=(w.1,(w.2.1,(w.2.2.1,(w.2.2.2.1,(w.2.2.2.2.1,(w.2.2.2.2.2.1,(w.2.2.2.2.2.2.1,(w.2.2.2.2.2.2.2.1,()))))))))
abbrev ZbJ (w:Tup picL):Tup Zb5:=(w.2.2.2.2.2.2.2.2.1,(w.2.2.2.2.2.2.2.2.2.1,()))
abbrev Zmo (w:Tup sndL):Tup apuL:=(w.1,(w.2.1,(w.2.2.1,(w.2.2.2.1,(w.2.2.2.2.1,(w.2.2.2.2.2.1,(w.2.2.2.2.2.2.1,())))))))
abbrev ZbM (w:Tup sndL):Tup Zb5:=(w.2.2.2.2.2.2.2.1,(w.2.2.2.2.2.2.2.2.1,()))
def Zga (w:Tup picL):Prop:=ZeA (ZcL w)∧(ZbJ w).2.1.length≤4398046511104∧small w.2.2.2.2.2.2.2.2.2.2.1
def Zgc (w:Tup sndL):Prop:=(ZbM w).2.1.length≤4398046511104∧w.2.2.2.2.2.2.2.2.2.1.length≤4398046511104
def ZhS (w:Tup picL):Bool:=Zgn (ZcL w)&&(ZcW (ZbJ w)&&(ZcT (ZbJ w) w.1&&ZcQ w.2.2.2.2.2.2.2.2.2.2.1 w.1))
def ZhV (w:Tup sndL):Bool:=ZhI (Zmo w)&&(ZcW (ZbM w)&&(ZcT (ZbM w) w.1&&Zdn w.2.2.2.2.2.2.2.2.2.1 w.1))
theorem Zm7 {p:Tup ppuL} (h:Zgn p=true):0≤p.1∧p.1≤20000:=by
 simp only[Zgn,ZjI,Bool.and_eq_true]at h
 exact Zbd.1 h.1.1
theorem Zmv {p:Tup apuL} (h:ZhI p=true):0≤p.1∧p.1≤20000:=by
 simp only[ZhI,Bool.and_eq_true]at h
 exact Zbd.1 h.1
theorem Zgi (w:Tup picL) (h:Zga w):r48 (w,())=some ((ZhS w,()),()):=by
 unfold r48 m48 ZhS
 obtain ⟨h1,h2,h3⟩:=h
 simp only[Zjo (ZcL w) h1,Zhn (ZbJ w) w.1 h2,Option.bind_some]
 cases e:Zgn (ZcL w)with
 |false=>rfl
 |true=>
  obtain ⟨t0,t1⟩:=Zm7 e
  simp only[Zg1 w.2.2.2.2.2.2.2.2.2.2.1 w.1 h3.1 t0 t1,Option.bind_some,cond_true,ZaM,Bool.and_assoc,Bool.true_and]
theorem Zgo (w:Tup picL) (h:Zga w):r119 (w,())=some ((ZhS w,()),()):=by
 unfold r119 m119 ZhS
 obtain ⟨h1,h2,h3⟩:=h
 simp only[ZjY (ZcL w) h1,Zfn (ZbJ w) h2,Option.bind_some,Zac]
 cases e:Zgn (ZcL w)with
 |false=>rfl
 |true=>
  obtain ⟨t0,t1⟩:=Zm7 e
  simp only[Zht w.2.2.2.2.2.2.2.2.2.2.1 w.1 h3.1 t0 t1,Option.bind_some,Bool.not_true,cond_false,Bool.true_and]
  unfold ZcT
  cases ZcW (ZbJ w)with
  |false=>rfl
  |true=>
   by_cases hz:(ZbJ w).2.1.length=0
   ·rw[ZcK (by have:w.2.2.2.2.2.2.2.2.2.1.length=0:=hz;omega),if_pos hz]
    simp
   ·rw[ZcD (by have: ¬w.2.2.2.2.2.2.2.2.2.1.length=0:=hz;omega),if_neg hz,Zal (by have: ¬w.2.2.2.2.2.2.2.2.2.1.length=0:=hz;omega)]
    simp only[ZaM,Bool.not_true,cond_false,cond_true,Bool.true_and]
theorem ZhN (w:Tup sndL) (h:Zgc w):r49 (w,())=some ((ZhV w,()),()):=by
 unfold r49 m49 ZhV
 obtain ⟨h1,h2⟩:=h
 simp only[Zjk (Zmo w),Zhn (ZbM w) w.1 h1,Option.bind_some]
 cases e:ZhI (Zmo w)with
 |false=>rfl
 |true=>
  obtain ⟨t0,t1⟩:=Zmv e
  simp only[Zgj w.2.2.2.2.2.2.2.2.2.1 w.1 t0 t1,Option.bind_some,cond_true,ZaM,Bool.and_assoc,Bool.true_and]
theorem ZhX (w:Tup sndL) (h:Zgc w):r120 (w,())=some ((ZhV w,()),()):=by
 unfold r120 m120 ZhV
 obtain ⟨h1,h2⟩:=h
 simp only[ZjU (Zmo w),Zfn (ZbM w) h1,Option.bind_some,Zac]
 cases e:ZhI (Zmo w)with
 |false=>rfl
 |true=>
  obtain ⟨t0,t1⟩:=Zmv e
  have et:wI (Int.tdiv w.1 16)=Int.tdiv w.1 16:=by
   have:=ZiW (c:=0) t0 t1 (by omega) (by omega) (.inr rfl:(16:Int)=64∨(16:Int)=16)
   simpa using this
  rw[et]
  unfold ZcT Zdn
  cases ZcW (ZbM w)with
  |false=>rfl
  |true=>
   by_cases hz:(ZbM w).2.1.length=0
   ·rw[ZcK (show (w.2.2.2.2.2.2.2.2.1.length:Int)=0 by have:w.2.2.2.2.2.2.2.2.1.length=0:=hz;omega),if_pos hz]
    simp
   ·rw[ZcD (show¬(w.2.2.2.2.2.2.2.2.1.length:Int)=0 by have: ¬w.2.2.2.2.2.2.2.2.1.length=0:=hz;omega),if_neg hz,Zal (by have: ¬w.2.2.2.2.2.2.2.2.1.length=0:=hz;omega)]
    simp only[ZaM,Bool.not_true,cond_false,cond_true,Bool.true_and]
abbrev Zbb:List LT:= .sl false .n:: .sl false .i::(memL++(cpuL++(padL++(.int .i64:: .bool:: .int .i64:: .bool:: .int .i64:: .int .i64:: .sl false .i::(picL++sndL)))))
section
variable (s:Tup Zbb)
abbrev Zd7:List (List Int):=s.1
abbrev Zce:List Int:=s.2.1
abbrev ZdM:Tup memL:=(s.2.2.1,(s.2.2.2.1,()))
abbrev Zfl:Tup cpuL:=(s.2.2.2.2.1,(s.2.2.2.2.2.1,(s.2.2.2.2.2.2.1,(s.2.2.2.2.2.2.2.1,(s.2.2.2.2.2.2.2.2.1,(s.2.2.2.2.2.2.2.2.2.1,(s.2.2.2.2.2.2.2.2.2.2.1,(s.2.2.2.2.2.2.2.2.2.2.2.1,()))))))))
abbrev Zo3:Tup padL:=(s.2.2.2.2.2.2.2.2.2.2.2.2.1,(s.2.2.2.2.2.2.2.2.2.2.2.2.2.1,()))
abbrev Zo4:Int:=s.2.2.2.2.2.2.2.2.2.2.2.2.2.1
abbrev spT:Int:=s.2.2.2.2.2.2.2.2.2.2.2.2.2.2.1
abbrev ZpL:Bool:=s.2.2.2.2.2.2.2.2.2.2.2.2.2.2.2.1
abbrev Zop:Int:=s.2.2.2.2.2.2.2.2.2.2.2.2.2.2.2.2.1
abbrev Zo2:Bool:=s.2.2.2.2.2.2.2.2.2.2.2.2.2.2.2.2.2.1
abbrev ZjT:Int:=s.2.2.2.2.2.2.2.2.2.2.2.2.2.2.2.2.2.2.1
abbrev Znh:Int:=s.2.2.2.2.2.2.2.2.2.2.2.2.2.2.2.2.2.2.2.1
abbrev Zc7:List Int:=s.2.2.2.2.2.2.2.2.2.2.2.2.2.2.2.2.2.2.2.2.1
abbrev ZbG:Tup picL:=(s.2.2.2.2.2.2.2.2.2.2.2.2.2.2.2.2.2.2.2.2.2.1,(s.2.2.2.2.2.2.2.2.2.2.2.2.2.2.2.2.2.2.2.2.2.2.1,(s.2.2.2.2.2.2.2.2.2.2.2.2.2.2.2.2.2.2.2.2.2.2.2.1,(s.2.2.2.2.2.2.2.2.2.2.2.2.2.2.2.2.2.2.2.2.2.2.2.2.1,(s.2.2.2.2.2.2.2.2.2.2.2.2.2.2.2.2.2.2.2.2.2.2.2.2.2.1,(s.2.2.2.2.2.2.2.2.2.2.2.2.2.2.2.2.2.2.2.2.2.2.2.2.2.2.1,(s.2.2.2.2.2.2.2.2.2.2.2.2.2.2.2.2.2.2.2.2.2.2.2.2.2.2.2.1,(s.2.2.2.2.2.2.2.2.2.2.2.2.2.2.2.2.2.2.2.2.2.2.2.2.2.2.2.2.1,(s.2.2.2.2.2.2.2.2.2.2.2.2.2.2.2.2.2.2.2.2.2.2.2.2.2.2.2.2.2.1,(s.2.2.2.2.2.2.2.2.2.2.2.2.2.2.2.2.2.2.2.2.2.2.2.2.2.2.2.2.2.2.1,(s.2.2.2.2.2.2.2.2.2.2.2.2.2.2.2.2.2.2.2.2.2.2.2.2.2.2.2.2.2.2.2.1,())))))))))))
abbrev ZdN:Tup sndL:=s.2.2.2.2.2.2.2.2.2.2.2.2.2.2.2.2.2.2.2.2.2.2.2.2.2.2.2.2.2.2.2.2
end
theorem Zm1 (a b:Int):ltI a b= !leI b a:=by
 by_cases h:a<b
 ·rw[Zal h,Zjv (by omega)];rfl
 ·rw[Zar h,Zav (by omega)];rfl
def Zca (r:Tup Zb5) (t:Int):Bool:=if r.2.1.length=0 then true else leI (rdE .t r.2.1 ((r.2.1.length-1:Nat):Int)).1 t
theorem Zho (r:Tup Zb5) (t:Int) (hl:r.2.1.length≤4398046511104):r53 (r,(t,()))=some ((Zca r t,()),()):=by
 unfold r53 m53 Zca
 simp only[Zac]
 by_cases h:r.2.1.length=0
 ·rw[ZcK (by omega),if_pos h];rfl
 ·rw[ZcD (by omega),if_neg h,ZiX h (by omega),Zav (by omega),Zal (by omega)];rfl
def ZnO (r:Tup Zb5):Int:=if r.2.1.length=0 then 0 else (rdE .t r.2.1 ((r.2.1.length-1:Nat):Int)).1
theorem Zic (r:Tup Zb5) (hl:r.2.1.length≤4398046511104):r122 (r,())=some ((ZnO r,()),()):=by
 unfold r122 m122 ZnO
 simp only[Zac]
 by_cases h:r.2.1.length=0
 ·rw[ZcK (by omega),if_pos h];rfl
 ·rw[ZcD (by omega),if_neg h,ZiX h (by omega),Zav (by omega),Zal (by omega)];rfl
theorem Zld (r:Tup Zb5) (t:Int) (h:0≤t):leI (ZnO r) t=Zca r t:=by
 unfold ZnO Zca
 split
 ·rw[Zav h]
 ·rfl
def Zbt (s:Tup Zbb):Prop:=small (Zd7 s)∧(Zce s).length≤4398046511104∧(ZdM s).1.length≤4398046511104∧(Zc7 s).length≤4398046511104∧Zga (ZbG s)∧Zgc (ZdN s)
def Zgx (s:Tup Zbb):Bool:=inR 0 255 (Zo4 s)&&(inR 0 255 (Zop s)&&(inR 0 20000 (spT s)&&(inR 0 (spT s) (ZjT s)&&inR 0 (spT s) (Znh s))))
def Zem (s:Tup Zbb):Bool:=ZhR (Zd7 s) (ZdM s)&&(Zfd (Zce s)&&(Zkk (Zfl s)&&(ZhS (ZbG s)&&ZhV (ZdN s))))
def Zgw (s:Tup Zbb):Bool:=leI (ZbG s).1 (spT s)&&(leI (ZdN s).1 (spT s)&&(Zca (ZbJ (ZbG s)) (spT s)&&Zca (ZbM (ZdN s)) (spT s)))
def ZcI (s:Tup Zbb):Bool:=Zem s&&(Zgx s&&Zgw s)
theorem ZhP (s:Tup Zbb) (h:Zbt s):r16 (s,())=some ((ZcI s,()),()):=by
 unfold r16 m16
 obtain ⟨h1,h2,h3,_,h5,h6⟩:=h
 simp only[ZdY (Zd7 s) (ZdM s) h1 h3,ZiG (Zce s) (by omega),Zjm (Zfl s),Zgi (ZbG s) h5,ZhN (ZdN s) h6,ZcF,Ze6,Za9,
  Zho (ZbJ (ZbG s)) _ h5.2.1,Zho (ZbM (ZdN s)) _ h6.1,Option.bind_some]
 unfold ZcI Zem Zgx Zgw
 generalize ZhR (Zd7 s) (ZdM s)=x0
 generalize Zfd (Zce s)=x1
 generalize Zkk (Zfl s)=x2
 generalize ZhS (ZbG s)=x3
 generalize ZhV (ZdN s)=x4
 generalize Zca (ZbJ (ZbG s)) (spT s)=x5
 generalize Zca (ZbM (ZdN s)) (spT s)=x6
 cases x0<;>cases x1<;>cases x2<;>cases x3<;>cases x4<;>first| (simp[ZaM];done)| (simp[ZaM,Bool.and_assoc];done)
theorem ZhZ (s:Tup Zbb) (h:Zbt s):r64 (s,())=some ((ZcI s,()),()):=by
 unfold r64 m64
 obtain ⟨h1,h2,h3,_,h5,h6⟩:=h
 simp only[Zd8 (Zd7 s) (ZdM s) h1 h3,ZiT (Zce s) (by omega),ZjW (Zfl s),Zgo (ZbG s) h5,ZhX (ZdN s) h6,ZbQ,Zbe,
  Zic (ZbJ (ZbG s)) h5.2.1,Zic (ZbM (ZdN s)) h6.1,Option.bind_some]
 unfold ZcI Zem Zgx Zgw
 generalize ZhR (Zd7 s) (ZdM s)=x0
 generalize Zfd (Zce s)=x1
 generalize Zkk (Zfl s)=x2
 generalize ZhS (ZbG s)=x3
 generalize ZhV (ZdN s)=x4
 cases hT:inR 0 20000 (spT s)with
 |false=>cases x0<;>cases x1<;>cases x2<;>cases x3<;>cases x4<;>simp[ZcC]
 |true=>
  have t0:=(Zbd.1 hT).1
  rw[Zld _ _ t0,Zld _ _ t0]
  have e1:ltI (spT s) (ZbG s).1= !leI (ZbG s).1 (spT s):=Zm1 _ _
  have e2:ltI (spT s) (ZdN s).1= !leI (ZdN s).1 (spT s):=Zm1 _ _
  rw[e1,e2]
  cases x0<;>cases x1<;>cases x2<;>cases x3<;>cases x4<;>first| (simp[ZcC,ZaM];done)| (simp[ZcC,ZaM,Bool.and_assoc];done)| (simp[ZcC,ZaM,Bool.and_assoc];rfl)
theorem ZgJ (l:List Int) (h:l.length≤4398046511104):r67 (l,())=some ((l,()),()):=by
 unfold r67 m67
 rw[Zjw (by simp only[E.most];omega)]
 rfl
theorem Zi7 (f:List (List Int)) (h:small f):r66 ((f,()),())=some (((f,()),()),()):=by
 have h0:=h.1
 have key:=Zdu (fun k i out=>n66_0 r67 k (f,((f.length:Int),())) ((out,()),()) ((i:Int),())) f (fun out=>(Sum.inl ((f.length:Int),()),((out,()),())))
  (fun k i out hi ho=>by
   simp only[n66_0,w66_0,Zac]
   rw[Zal (by omega),Zav (by omega),Zaq .n f i hi,ZaA (by omega),ZgJ _ (h.2.1 _ (List.getElem_mem hi))]
   simp only[cond_true,Option.bind_some]
   rw[Zjw (by simp only[E.most,List.length_singleton];omega)]
   rfl)
  (fun k out ho=>by
   simp only[n66_0,w66_0,Zac]
   rw[Zar (by omega)];rfl) fuel 0 [] (by omega) rfl (by have:=Zap;omega)
 unfold r66 m66 L66_0
 simp only[Zac]
 simp only[Int.natCast_zero,List.drop_zero,List.nil_append]at key
 rw[key]
 rfl
theorem ZkB (f:List (List Int)) (h:small f):r60 ((f,()),())=some (((f,()),()),()):=by
 have h0:=h.1
 have key:=Zdu (fun k i out=>n60_0 k () ((f,()),((out,()),())) ((i:Int),())) f (fun out=>(Sum.inl ((f.length:Int),()),((f,()),((out,()),()))))
  (fun k i out hi ho=>by
   have hl:=h.2.1 _ (List.getElem_mem hi)
   simp only[n60_0,w60_0,Zac]
   rw[Zal (by omega),Zav (by omega),Zaq .n f i hi,ZaA (by omega)]
   rw[Zjw (by simp only[E.most];omega),Zjw (by simp only[E.most,List.length_singleton];omega)]
   rfl)
  (fun k out ho=>by
   simp only[n60_0,w60_0,Zac]
   rw[Zar (by omega)];rfl) fuel 0 [] (by omega) rfl (by have:=Zap;omega)
 unfold r60 m60 L60_0
 simp only[Int.natCast_zero,List.drop_zero,List.nil_append]at key
 rw[key]
 rfl
theorem Zkj (r:Tup Zb5) (h:r.2.1.length≤4398046511104):r71 (r,())=some ((r,()),()):=by
 unfold r71 m71
 simp only
 rw[Zjw (by simp only[E.most];omega)]
 rfl
theorem mod256 (x:Int):0≤x%256∧x%256≤255:=by omega
theorem Zky (y:PTup i194):r194 y=some (((y.1:Int)%256,()),()):=by
 unfold r194 m194
 rw[Zk4]
theorem Zbo (y:PTup i59):r59 y=some (((y.1:Int)%256,()),()):=by
 unfold r59 m59
 rw[Zk4]
theorem Zkx (y:PTup i216):r216 y=some (((y.1:Int)%65536,()),()):=by
 unfold r216 m216
 rw[Zh1]
theorem ZkS (y:PTup i217):r217 y=some (((y.1:Int)%65536,()),()):=by
 unfold r217 m217
 rw[Zh1]
def Zg7 (lo hi:Int):Int:=lo%256+256*(hi%256)
theorem Zg2 (y:PTup i159):r159 y=some ((Zg7 y.1 y.2.1,()),()):=by
 unfold r159 m159 Zg7
 obtain ⟨lo,hi,_⟩:=y
 simp only[Zky,Option.bind_some]
 have h1:=mod256 lo
 have h2:=mod256 hi
 rw[Zbk (x:=256*(hi%256)) (by omega) (by omega),Zbk (by omega) (by omega)]
theorem Zhu (y:PTup i114):r114 y=some ((Zg7 y.1 y.2.1,()),()):=by
 unfold r114 m114 Zg7
 obtain ⟨lo,hi,_⟩:=y
 simp only[Zbo,Option.bind_some]
 have h1:=mod256 lo
 have h2:=mod256 hi
 rw[Zbk (x:=256*(hi%256)) (by omega) (by omega),Zbk (by omega) (by omega)]
theorem ZjG {n:Int} (h:0≤n∧n≤29):n=0∨n=1∨n=2∨n=3∨n=4∨n=5∨n=6∨n=7∨n=8∨n=9∨n=10∨n=11∨n=12∨n=13∨n=14∨n=15∨n=16∨n=17∨n=18∨n=19∨n=20∨n=21∨n=22∨n=23∨n=24∨n=25∨n=26∨n=27∨n=28∨n=29:=by omega
def Zba (n:Int):Int:=if 0≤n∧n≤29 then ([1,2,3,3,2,2,2,2,2,2,1,1,1,1,3,3,3,3,3,3,3,1,1,1,1,1,1,1,1,3]:List Int).getD n.toNat 1 else 1
theorem Zf4 (y:PTup i91):r91 y=some ((Zba y.1,()),()):=by
 obtain ⟨(n:Int),_⟩:=y
 show r91 (n,())=some ((Zba n,()),())
 by_cases h:0≤n∧n≤29
 ·rcases ZjG h with rfl|rfl|rfl|rfl|rfl|rfl|rfl|rfl|rfl|rfl|rfl|rfl|rfl|rfl|rfl|rfl|rfl|rfl|rfl|rfl|rfl|rfl|rfl|rfl|rfl|rfl|rfl|rfl|rfl|rfl<;>rfl
 ·have e: ∀c:Int,0≤c→c≤29→eqI n c=false:=fun c h0 h1=>ZcD (by omega)
  have e2: ∀a b:Int,0≤a→b≤29→inR a b n=false:=fun a b h0 h1=>by
   cases hh:inR a b n with
   |false=>rfl
   |true=>have:=Zbd.1 hh;omega
  unfold r91 m91 Zba
  rw[if_neg h]
  simp[e,e2,Za9]
theorem Zgd (y:PTup i113):r113 y=some ((Zba y.1,()),()):=by
 obtain ⟨(n:Int),_⟩:=y
 show r113 (n,())=some ((Zba n,()),())
 by_cases h:0≤n∧n≤29
 ·rcases ZjG h with rfl|rfl|rfl|rfl|rfl|rfl|rfl|rfl|rfl|rfl|rfl|rfl|rfl|rfl|rfl|rfl|rfl|rfl|rfl|rfl|rfl|rfl|rfl|rfl|rfl|rfl|rfl|rfl|rfl|rfl<;>rfl
 ·have e2:inR 0 29 n=false:=by
   cases hh:inR 0 29 n with
   |false=>rfl
   |true=>exact absurd (Zbd.1 hh) h
  unfold r113 m113 Zba
  rw[if_neg h]
  simp only[Zbe,Option.bind_some,e2,Bool.not_false,cond_true]
structure MemM where
 ram:List Int
 bank:Int
structure CpuM where
 a:Int
 x:Int
 s:Int
 pc:Int
 z:Bool
 n:Bool
 c:Bool
 i:Bool
structure PpuM where
 T:Int
 ctrl:Int
 scroll:Int
 addr:Int
 pal:Int
 blank:Bool
 table:List Int
 dots:List Int
structure ApuM where
 T:Int
 period:Int
 count:Int
 bit:Int
 len:Int
 asks:Bool
 irq:Bool
structure PadM where
 held:Bool
 shift:Int
def MemM.t (x:MemM):Tup memL:=(x.ram,(x.bank,()))
def CpuM.t (c:CpuM):Tup cpuL:=(c.a,(c.x,(c.s,(c.pc,(c.z,(c.n,(c.c,(c.i,()))))))))
def PpuM.t (p:PpuM):Tup ppuL:=(p.T,(p.ctrl,(p.scroll,(p.addr,(p.pal,(p.blank,(p.table,(p.dots,()))))))))
def ApuM.t (a:ApuM):Tup apuL:=(a.T,(a.period,(a.count,(a.bit,(a.len,(a.asks,(a.irq,())))))))
def PadM.t (x:PadM):Tup padL:=(x.held,(x.shift,()))
def Zby (l:List Int):Prop:= ∀n,n∈l→0≤n∧n≤255
structure ImgP (f:List (List Int)):Prop where
 banks: ∀b,b∈f→b.length=256∧Zby b
 lo:1≤f.length
 hi:f.length≤8
structure RamP (x:MemM):Prop where
 len:x.ram.length=512
 bytes:Zby x.ram
structure MemP (f:List (List Int)) (x:MemM):Prop where
 img:ImgP f
 ram:RamP x
 b0:0≤x.bank
 b1:x.bank< (f.length:Int)
structure CpuP (c:CpuM):Prop where
 a:0≤c.a∧c.a≤255
 x:0≤c.x∧c.x≤255
 s:0≤c.s∧c.s≤255
 pc:0≤c.pc∧c.pc≤65535
theorem ZeU {lo hi:Int} {l:List Int}:allR lo hi l=true↔ ∀n,n∈l→lo≤n∧n≤hi:=by
 unfold allR
 rw[List.all_eq_true]
 exact ⟨fun h n hn=>Zbd.1 (h n hn),fun h n hn=>Zbd.2 (h n hn)⟩
theorem ZdV {a b:Int}:eqI a b=true↔a=b:=by rw[Ziy];simp
theorem Zd0 {a b:Int}:leI a b=true↔a≤b:=by simp[leI]
theorem ZgZ {f:List (List Int)}:Zdy f=true↔ImgP f:=by
 unfold Zdy
 rw[Bool.and_eq_true,List.all_eq_true,Zbd]
 constructor
 ·rintro ⟨h,h1,h2⟩
  refine ⟨fun b hb=> ?_,by omega,by omega⟩
  have:=h b hb
  unfold ZdT at this
  rw[Bool.and_eq_true,ZdV,ZeU]at this
  exact ⟨by omega,this.2⟩
 ·rintro ⟨h,h1,h2⟩
  refine ⟨fun b hb=> ?_,by omega,by omega⟩
  unfold ZdT
  rw[Bool.and_eq_true,ZdV,ZeU]
  exact ⟨by have:=(h b hb).1;omega,(h b hb).2⟩
theorem Zd2 {f:List (List Int)} {x:MemM}:ZhR f x.t=true↔MemP f x:=by
 unfold ZhR MemM.t
 simp only[Bool.and_eq_true,ZgZ,ZdV,ZeU,Zbd]
 constructor
 ·rintro ⟨h,h1,h2,h3,h4⟩
  exact ⟨h,⟨by omega,h2⟩,h3,by omega⟩
 ·rintro ⟨h,⟨h1,h2⟩,h3,h4⟩
  exact ⟨h,by omega,h2,h3,by omega⟩
theorem Zi8 {c:CpuM}:Zkk c.t=true↔CpuP c:=by
 unfold Zkk CpuM.t
 simp only[Bool.and_eq_true,Zbd]
 constructor
 ·rintro ⟨h,h1,h2,h3⟩;exact ⟨h,h1,h2,h3⟩
 ·rintro ⟨h,h1,h2,h3⟩;exact ⟨h,h1,h2,h3⟩
theorem ImgP.small {f:List (List Int)} (h:ImgP f):small f:=by
 have key: ∀g:List (List Int),(∀b,b∈g→b.length=256)→bulk g=256*g.length:=by
  intro g
  induction g with
  |nil=>intro _;rfl
  |cons b g ih=>
   intro hb
   simp only[bulk,List.length_cons]
   rw[ih (fun b hg=>hb b (List.mem_cons_of_mem _ hg)),hb b List.mem_cons_self]
   omega
 have hi:=h.hi
 refine ⟨by omega,fun l hl=> ?_,?_⟩
 ·have:=(h.banks l hl).1;omega
 ·rw[key f fun b hb=>(h.banks b hb).1];omega
def rgT (a:Int):Int×Int:=
 let b:=a%65536
 if b<8192 then (1,b%512)else if b<16384 then (2,b%8)else if b<16388 then (3,b%4)else if b=16406 then (4,0)else if b<32768 then (7,0)else if b<49152 then (5,b%256)else (6,b%256)
theorem ZcJ {a b:Int} (h:0≤a):Int.tmod a b=a%b:=Int.tmod_eq_emod_of_nonneg h
theorem Zjp (a:Int):r188 (a,())=some (((rgT a).1,((rgT a).2,())),()):=by
 unfold r188 m188 rgT
 simp only[Zkx,Option.bind_some]
 have h0:0≤a%65536:=by omega
 generalize a%65536=b at*
 rw[ZcJ h0,ZcJ h0,ZcJ h0,ZcJ h0]
 by_cases h1:b<8192
 ·rw[Zal h1,if_pos h1];rfl
 rw[Zar h1,if_neg h1,cond_false]
 by_cases h1:b<16384
 ·rw[Zal h1,if_pos h1];rfl
 rw[Zar h1,if_neg h1,cond_false]
 by_cases h1:b<16388
 ·rw[Zal h1,if_pos h1];rfl
 rw[Zar h1,if_neg h1,cond_false]
 by_cases h1:b=16406
 ·rw[ZcK h1,if_pos h1];rfl
 rw[ZcD h1,if_neg h1,cond_false]
 by_cases h1:b<32768
 ·rw[Zal h1,if_pos h1];rfl
 rw[Zar h1,if_neg h1,cond_false]
 by_cases h1:b<49152
 ·rw[Zal h1,if_pos h1];rfl
 rw[Zar h1,if_neg h1,cond_false]
theorem ZiH (y:PTup i188):r188 y=some (((rgT y.1).1,((rgT y.1).2,())),()):=Zjp y.1
theorem ZjZ (a:Int):r191 (a,())=some (((rgT a).1,((rgT a).2,())),()):=by
 unfold r191 m191 rgT
 simp only[ZkS,Option.bind_some]
 have h0:0≤a%65536:=by omega
 generalize a%65536=b at*
 rw[ZcJ h0,ZcJ h0,ZcJ h0,ZcJ h0]
 by_cases h1:b<8192
 ·rw[Zal h1,if_pos h1];rfl
 rw[Zar h1,if_neg h1,cond_false]
 by_cases h1:b<16384
 ·rw[Zal h1,if_pos h1];rfl
 rw[Zar h1,if_neg h1,cond_false]
 by_cases h1:b<16388
 ·rw[Zal h1,if_pos h1];rfl
 rw[Zar h1,if_neg h1,cond_false]
 by_cases h1:b=16406
 ·rw[ZcK h1,if_pos h1];rfl
 rw[ZcD h1,if_neg h1,cond_false]
 by_cases h1:b<32768
 ·rw[Zal h1,if_pos h1];rfl
 rw[Zar h1,if_neg h1,cond_false]
 by_cases h1:b<49152
 ·rw[Zal h1,if_pos h1];rfl
 rw[Zar h1,if_neg h1,cond_false]
theorem ZiU (y:PTup i191):r191 y=some (((rgT y.1).1,((rgT y.1).2,())),()):=ZjZ y.1
theorem ZjP (a:Int):((rgT a).1=1∧0≤(rgT a).2∧(rgT a).2<512)∨((rgT a).1=2∧0≤(rgT a).2∧(rgT a).2<8)∨((rgT a).1=3∧0≤(rgT a).2∧(rgT a).2<4)∨((rgT a).1=4∧(rgT a).2=0)∨((rgT a).1=5∧0≤(rgT a).2∧(rgT a).2<256)∨((rgT a).1=6∧0≤(rgT a).2∧(rgT a).2<256)∨((rgT a).1=7∧(rgT a).2=0):=by
 unfold rgT
 simp only
 split
 ·left;exact ⟨rfl,by show 0≤a%65536%512;omega,by show a%65536%512<512;omega⟩
 right
 split
 ·left;exact ⟨rfl,by show 0≤a%65536%8;omega,by show a%65536%8<8;omega⟩
 right
 split
 ·left;exact ⟨rfl,by show 0≤a%65536%4;omega,by show a%65536%4<4;omega⟩
 right
 split
 ·left;exact ⟨rfl,rfl⟩
 right
 split
 ·right;right;exact ⟨rfl,rfl⟩
 split
 ·left;exact ⟨rfl,by show 0≤a%65536%256;omega,by show a%65536%256<256;omega⟩
 ·right;left;exact ⟨rfl,by show 0≤a%65536%256;omega,by show a%65536%256<256;omega⟩
def Zgm (f:List (List Int)) (x:MemM) (a:Int):Int:=
 if (rgT a).1=1 then rdE .i x.ram (rgT a).2 else if (rgT a).1=5 then rdI (rdE .n f x.bank) (rgT a).2 else if (rgT a).1=6 then rdI (rdE .n f ((f.length:Int)-1)) (rgT a).2 else 0
theorem ZiP {e:E} {l:List e.C} {i:Int} (h0:0≤i) (h1:i< (l.length:Int)):rdE e l i∈l:=by
 have:i.toNat<l.length:=by omega
 rw[show rdE e l i=l[i.toNat] by simp[rdE,List.getD,this]]
 exact List.getElem_mem _
theorem Zjn (f:List (List Int)) (x:MemM) (a:Int) (h:MemP f x):r195 ((f,()),(x.t,(a,())))=some ((Zgm f x a,()),()):=by
 have hf:=h.img.lo
 have hg:=h.img.hi
 have hb0:=h.b0
 have hb1:=h.b1
 have hl:=h.ram.len
 unfold r195 m195 Zgm
 simp only[ZiH,Option.bind_some,Zac,MemM.t]
 rw[Zbk (x:=(f.length:Int)-1) (by omega) (by omega)]
 rcases ZjP a with ⟨e,h0,h1⟩| ⟨e,h0,h1⟩| ⟨e,h0,h1⟩| ⟨e,h0⟩| ⟨e,h0,h1⟩| ⟨e,h0,h1⟩| ⟨e,h0⟩<;>rw[e]
 ·rw[Zav h0,Zal (by omega)];rfl
 ·rfl
 ·rfl
 ·rfl
 ·have hm:=(h.img.banks _ (ZiP (e:= .n) hb0 hb1)).1
  rw[Zav hb0,Zal hb1,Zav h0,Zal (show (rgT a).2< ((rdE .n f x.bank:List Int).length:Int) by omega)];rfl
 ·have hm:=(h.img.banks _ (ZiP (e:= .n) (l:=f) (i:=(f.length:Int)-1) (by omega) (by omega))).1
  rw[Zav (show 0≤(f.length:Int)-1 by omega),Zal (show (f.length:Int)-1< (f.length:Int) by omega),Zav h0,Zal (show (rgT a).2< ((rdE .n f ((f.length:Int)-1):List Int).length:Int) by omega)];rfl
 ·rfl
theorem ZjX (f:List (List Int)) (x:MemM) (a:Int) (h:MemP f x):r153 ((f,()),(x.t,(a,())))=some ((Zgm f x a,()),()):=by
 have hf:=h.img.lo
 have hg:=h.img.hi
 have hb0:=h.b0
 have hb1:=h.b1
 have hl:=h.ram.len
 unfold r153 m153 Zgm
 simp only[ZiU,Option.bind_some,Zac,MemM.t]
 rw[Zbk (x:=(f.length:Int)-1) (by omega) (by omega)]
 rcases ZjP a with ⟨e,h0,h1⟩| ⟨e,h0,h1⟩| ⟨e,h0,h1⟩| ⟨e,h0⟩| ⟨e,h0,h1⟩| ⟨e,h0,h1⟩| ⟨e,h0⟩<;>rw[e]
 ·rw[Zav h0,Zal (by omega)];rfl
 ·rfl
 ·rfl
 ·rfl
 ·have hm:=(h.img.banks _ (ZiP (e:= .n) hb0 hb1)).1
  rw[Zav hb0,Zal hb1,Zav h0,Zal (show (rgT a).2< ((rdE .n f x.bank:List Int).length:Int) by omega)];rfl
 ·have hm:=(h.img.banks _ (ZiP (e:= .n) (l:=f) (i:=(f.length:Int)-1) (by omega) (by omega))).1
  rw[Zav (show 0≤(f.length:Int)-1 by omega),Zal (show (f.length:Int)-1< (f.length:Int) by omega),Zav h0,Zal (show (rgT a).2< ((rdE .n f ((f.length:Int)-1):List Int).length:Int) by omega)];rfl
 ·rfl
theorem Zkz (f:List (List Int)) (x:MemM) (h:MemP f x):r45 ((f,()),(x.t,()))=some ((true,()),()):=by
 have:=ZdY f x.t h.img.small (by show x.ram.length≤_;have:=h.ram.len;omega)
 rw[Zd2.2 h]at this
 exact this
theorem ZkU (f:List (List Int)) (x:MemM) (h:MemP f x):r117 ((f,()),(x.t,()))=some ((true,()),()):=by
 have:=Zd8 f x.t h.img.small (by show x.ram.length≤_;have:=h.ram.len;omega)
 rw[Zd2.2 h]at this
 exact this
theorem Zg4 (f:List (List Int)) (x:MemM) (a:Int) (h:MemP f x):r160 ((f,()),(x.t,(a,())))=some ((Zgm f x a,()),()):=by
 unfold r160 m160
 exact Zaa (Zkz f x h) (Zaa (Zjn f x a h) rfl)
theorem Zhw (f:List (List Int)) (x:MemM) (a:Int) (h:MemP f x):r115 ((f,()),(x.t,(a,())))=some ((Zgm f x a,()),()):=by
 unfold r115 m115
 exact Zaa (ZkU f x h) (Zaa (ZjX f x a h) rfl)
theorem Zby.set {l:List Int} (h:Zby l) (i:Nat) {v:Int} (hv:0≤v∧v≤255):Zby (l.set i v):=fun n hn=>by
 rcases List.mem_or_eq_of_mem_set hn with h1|h1
 ·exact h n h1
 ·rw[h1];exact hv

end Go.Proofs.YtmlahgmhbdpkjaaGreatDoor.Plain
