/- Plain laws of the printed functions: Mark, LawFns, LawSp. No condition beyond those that each lemma states. -/
import Derived.Test.YtmlahgmhbdpkjaaGreatDoorPE
set_option linter.unusedVariables false
set_option linter.unusedSimpArgs false
namespace Go.Proofs.YtmlahgmhbdpkjaaGreatDoor.Plain
open Go Go.Tev
def nums (k:Int):Nat→List Int|0=>[]|n+1=>k::nums (k+1) n
theorem Zei: ∀(n:Nat) (k:Int),(nums k n).length=n
 |0,_=>rfl
 |n+1,k=>by simp[nums,Zei n]
theorem Zhy {α:Type} {out:List α} {i:Nat} (h:i<out.length) (x:α):(out.set i x).take (i+1)=out.take i++[x]:=by
 apply List.ext_getElem?
 intro j
 rcases Nat.lt_trichotomy j i with hj|hj|hj
 ·rw[List.getElem?_append_left (by simp;omega),List.getElem?_take_of_lt (by omega),List.getElem?_take_of_lt hj,List.getElem?_set_ne (by omega)]
 ·subst hj
  rw[List.getElem?_append_right (by simp;omega),List.getElem?_take_of_lt (by omega),List.getElem?_set_self h]
  simp[Nat.min_eq_left (Nat.le_of_lt h)]
 ·rw[List.getElem?_eq_none (by simp;omega),List.getElem?_eq_none (by simp;omega)]
theorem ZmK {α:Type} {out:List α} {i:Nat} (x:α):(out.set i x).drop (i+1)=out.drop (i+1):=by
 apply List.ext_getElem?
 intro j
 rw[List.getElem?_drop,List.getElem?_drop,List.getElem?_set_ne (by omega)]
theorem Znq {k:Int} (h0:0≤k) (h:k<4611686018427387904):wI (k+1)=k+1:=Zbk (by omega) (by omega)
theorem Ze7: ∀(f i:Nat) (out:List Int) (k:Int),i≤out.length→out.length-i<f→0≤k→k+((out.length:Int)-(i:Int))≤4611686018427387904→(out.length:Int)≤4611686018427387904→
  n10_0 f () () (k,((i:Int),(out,())))=some (Sum.inl (k+((out.length:Int)-(i:Int)),((out.length:Int),(out.take i++nums k (out.length-i),()))),())
 |0,_,_,_,_,h,_,_,_=>absurd h (by omega)
 |f+1,i,out,k,hi,hf,h0,h1,h2=>by
  unfold n10_0 w10_0
  simp only[Zac]
  by_cases h:i<out.length
  ·rw[Zal (by omega),Zav (by omega),ZaA (by omega),Znq h0 (by omega)]
   simp only[cond_true,Int.toNat_natCast]
   rw[Ze7 f (i+1) (out.set i k) (k+1) (by simp;omega) (by simp;omega) (by omega) (by simp;omega) (by simpa using h2),Zhy h]
   simp only[List.length_set]
   rw[show out.length-i=(out.length-(i+1))+1 by omega,nums,show k+1+((out.length:Int)-((i+1:Nat):Int))=k+((out.length:Int)-(i:Int)) by omega]
   simp
  ·have:i=out.length:=by omega
   subst this
   rw[Zar (by omega),cond_false]
   simp[nums]
theorem Zbm (l:List Int) (k:Int) (h0:0≤k) (h:k+(l.length:Int)≤4611686018427387904):r10 (l,(k,()))=some ((k+(l.length:Int),(nums k l.length,())),()):=by
 unfold r10 m10 L10_0
 have:=Ze7 fuel 0 l k (by omega) (by have:=Zap;omega) h0 (by omega) (by omega)
 simp only[Int.natCast_zero,Int.sub_zero,Nat.sub_zero,List.take_zero,List.nil_append]at this
 simp only[this]
 rfl
theorem Ze2 (l:List Int) (hl:(l.length:Int)≤4611686018427387904): ∀(f i:Nat) (k:Int),i≤l.length→l.length-i<f→0≤k→k+((l.length:Int)-(i:Int))≤4611686018427387904→l.drop i=nums k (l.length-i)→
  n33_0 f (l,()) () (k,((i:Int),()))=some (Sum.inl (k+((l.length:Int)-(i:Int)),((l.length:Int),())),())
 |0,_,_,_,h,_,_,_=>absurd h (by omega)
 |f+1,i,k,hi,hf,h0,h1,hd=>by
  unfold n33_0 w33_0
  simp only[Zac]
  by_cases h:i<l.length
  ·rw[Zay h,show l.length-i=(l.length-(i+1))+1 by omega,nums]at hd
   simp only[List.cons.injEq]at hd
   rw[Zal (by omega),Zav (by omega),Zaq .i l i h,Zdl hd.1,ZaA (by omega),Znq h0 (by omega)]
   simp only[cond_true,cond_false]
   rw[Ze2 l hl f (i+1) (k+1) (by omega) (by omega) (by omega) (by omega) hd.2,show k+1+((l.length:Int)-((i+1:Nat):Int))=k+((l.length:Int)-(i:Int)) by omega]
  ·have:i=l.length:=by omega
   subst this
   rw[Zar (by omega),cond_false]
   simp
theorem ZbF (n:Nat) (k:Int) (h0:0≤k) (h:k+(n:Int)≤4611686018427387904):r33 (nums k n,(k,()))=some ((k+(n:Int),()),()):=by
 unfold r33 m33 L33_0
 have:=Ze2 (nums k n) (by rw[Zei];omega) fuel 0 k (by omega) (by have:=Zap;rw[Zei];omega) h0 (by rw[Zei];omega) (by simp[Zei])
 simp only[Int.natCast_zero,Int.sub_zero,Zei]at this
 simp only[this]
 rfl
def Zer (k:Int):List (List Int)→List (List Int)| []=>[]|l::f=>nums k l.length::Zer (k+(l.length:Int)) f
theorem Zfb: ∀(f:List (List Int)) (k:Int),(Zer k f).length=f.length
 | [],_=>rfl
 |l::f,k=>by simp[Zer,Zfb f]
theorem Zez: ∀(f i:Nat) (out:List (List Int)) (k:Int),i≤out.length→out.length-i<f→0≤k→k+(bulk (out.drop i):Int)≤4611686018427387904→(out.length:Int)≤4611686018427387904→
  n76_0 r10 f () () (k,((i:Int),(out,())))=some (Sum.inl (k+(bulk (out.drop i):Int),((out.length:Int),(out.take i++Zer k (out.drop i),()))),())
 |0,_,_,_,_,h,_,_,_=>absurd h (by omega)
 |f+1,i,out,k,hi,hf,h0,h1,h2=>by
  unfold n76_0 w76_0
  simp only[Zac]
  by_cases h:i<out.length
  ·rw[Zay h]at h1⊢
   simp only[bulk]at h1⊢
   rw[Zal (by omega),Zav (by omega),Zaq .n out i h,ZaA (by omega),Zbm _ k h0 (by omega)]
   simp only[cond_true,Int.toNat_natCast,Option.bind_some]
   have e:=ZmK (out:=out) (i:=i) (nums k out[i].length)
   rw[Zez f (i+1) (out.set i (nums k out[i].length)) (k+(out[i].length:Int)) (by simp;omega) (by simp;omega) (by omega) (by rw[e];omega) (by simpa using h2),Zhy h,e]
   simp only[List.length_set,Zer]
   rw[show k+(out[i].length:Int)+(bulk (out.drop (i+1)):Int)=k+((out[i].length+bulk (out.drop (i+1)):Nat):Int) by omega]
   simp
  ·have:i=out.length:=by omega
   subst this
   rw[Zar (by omega),cond_false]
   simp[Zer,bulk]
theorem Zf8 (l:List (List Int)) (k:Int) (h0:0≤k) (h:k+(bulk l:Int)≤4611686018427387904) (hl:(l.length:Int)≤4611686018427387904):r76 (l,(k,()))=some ((k+(bulk l:Int),(Zer k l,())),()):=by
 unfold r76 m76 L76_0
 have:=Zez fuel 0 l k (by omega) (by have:=Zap;omega) h0 (by simpa using h) (by omega)
 simp only[Int.natCast_zero,List.drop_zero,List.take_zero,List.nil_append]at this
 simp only[this]
 rfl
theorem Zew (a:List (List Int)) (ha:(a.length:Int)≤4611686018427387904): ∀(f i:Nat) (g:List (List Int)) (k:Int),i≤a.length→a.length-i<f→0≤k→k+(bulk g:Int)≤4611686018427387904→a.drop i=Zer k g→
  n79_0 r33 f (a,()) () (k,((i:Int),()))=some (Sum.inl (k+(bulk g:Int),((a.length:Int),())),())
 |0,_,_,_,_,h,_,_,_=>absurd h (by omega)
 |f+1,i,g,k,hi,hf,h0,h1,hd=>by
  unfold n79_0 w79_0
  simp only[Zac]
  by_cases h:i<a.length
  ·rw[Zay h]at hd
   cases g with
   |nil=>exact absurd hd (List.cons_ne_nil _ _)
   |cons l g=>
    simp only[Zer,List.cons.injEq]at hd
    simp only[bulk]at h1⊢
    rw[Zal (by omega),Zav (by omega),Zaq .n a i h,hd.1,ZbF l.length k h0 (by omega),ZaA (by omega)]
    simp only[cond_true,Option.bind_some]
    rw[Zar (show¬k+(l.length:Int)<0 by omega),cond_false,Zew a ha f (i+1) g (k+(l.length:Int)) (by omega) (by omega) (by omega) (by omega) hd.2]
    rw[show k+(l.length:Int)+(bulk g:Int)=k+((l.length+bulk g:Nat):Int) by omega]
  ·have:i=a.length:=by omega
   subst this
   rw[List.drop_length]at hd
   cases g with
   |nil=>
    rw[Zar (by omega),cond_false]
    simp[bulk]
   |cons l g=>simp[Zer]at hd
theorem Zf2 (l:List (List Int)) (k:Int) (h0:0≤k) (h:k+(bulk l:Int)≤4611686018427387904) (hl:(l.length:Int)≤4611686018427387904):r79 (Zer k l,(k,()))=some ((k+(bulk l:Int),()),()):=by
 unfold r79 m79 L79_0
 have:=Zew (Zer k l) (by rw[Zfb];omega) fuel 0 l k (by omega) (by have:=Zap;rw[Zfb];omega) h0 h (by simp)
 simp only[Int.natCast_zero,Zfb]at this
 simp only[this]
 rfl
def recs (k:Int):Nat→List (Int×Int×Int)|0=>[]|n+1=>(k,k+1,k+2)::recs (k+3) n
theorem Zel: ∀(n:Nat) (k:Int),(recs k n).length=n
 |0,_=>rfl
 |n+1,k=>by simp[recs,Zel n]
theorem ZoZ (l:List (Int×Int×Int)) (i:Nat) (x:Int×Int×Int) (h:i<l.length):rdE .t (l.set i x) (i:Int)=x:=by
 rw[Zaq .t _ i (by simpa using h)]
 simp
theorem Ze8: ∀(f i:Nat) (out:List (Int×Int×Int)) (k:Int),i≤out.length→out.length-i<f→0≤k→k+3*((out.length:Int)-(i:Int))≤4611686018427387904→(out.length:Int)≤4611686018427387904→
  n126_0 f () () (k,((i:Int),(out,())))=some (Sum.inl (k+3*((out.length:Int)-(i:Int)),((out.length:Int),(out.take i++recs k (out.length-i),()))),())
 |0,_,_,_,_,h,_,_,_=>absurd h (by omega)
 |f+1,i,out,k,hi,hf,h0,h1,h2=>by
  unfold n126_0 w126_0
  simp only[Zac,Int.toNat_natCast,List.length_set]
  by_cases h:i<out.length
  ·have e1:wI (k+1)=k+1:=Znq h0 (by omega)
   have e2:wI (k+1+1)=k+2:=by rw[Znq (by omega) (by omega)];omega
   have e3:wI (k+2+1)=k+3:=by rw[Znq (by omega) (by omega)];omega
   rw[Zal (by omega),Zav (by omega),ZaA (by omega)]
   simp only[cond_true,e1,e2,e3,ZoZ _ _ _ h,List.set_set]
   have e: ∀y:Int×Int×Int,setT (setT (setT y k (0+0)) (k+1) (0+1)) (k+2) (0+2)=(k,k+1,k+2):=fun y=>rfl
   rw[e,Ze8 f (i+1) (out.set i (k,k+1,k+2)) (k+3) (by simp;omega) (by simp;omega) (by omega) (by simp;omega) (by simpa using h2),Zhy h]
   simp only[List.length_set]
   rw[show out.length-i=(out.length-(i+1))+1 by omega,recs,show k+3+3*((out.length:Int)-((i+1:Nat):Int))=k+3*((out.length:Int)-(i:Int)) by omega]
   simp
  ·have:i=out.length:=by omega
   subst this
   rw[Zar (by omega),cond_false]
   simp[recs]
theorem ZkE (l:List (Int×Int×Int)) (k:Int) (h0:0≤k) (h:k+3*(l.length:Int)≤4611686018427387904):r126 (l,(k,()))=some ((k+3*(l.length:Int),(recs k l.length,())),()):=by
 unfold r126 m126 L126_0
 have:=Ze8 fuel 0 l k (by omega) (by have:=Zap;omega) h0 (by omega) (by omega)
 simp only[Int.natCast_zero,Int.sub_zero,Nat.sub_zero,List.take_zero,List.nil_append]at this
 simp only[this]
 rfl
theorem Zbs (a:Int):neI a a=false:=Zdl rfl
theorem Zjd (l:List (List Int)) (h:small l):r22 ((l,()),((l,()),()))=some ((true,()),()):=by
 unfold r22 m22
 simp only[Zh7 l l h,Option.bind_some,decide_true,Bool.not_true,cond_false]
theorem ZlQ (a:Tup memL) (h:a.1.length≤4398046511104):r23 (a,(a,()))=some ((true,()),()):=by
 unfold r23 m23
 simp only[Zdf _ _ h,Option.bind_some,decide_true,Bool.not_true,cond_false,Zbs]
theorem ZlP (a:Tup cpuL):r24 (a,(a,()))=some ((true,()),()):=by
 unfold r24 m24
 simp only[Zbs,beq_self_eq_true,Bool.not_true,cond_false]
theorem ZlO (a:Tup apuL):r75 (a,(a,()))=some ((true,()),()):=by
 unfold r75 m75
 simp only[Zbs,beq_self_eq_true,Bool.not_true,cond_false]
theorem ZlR (a:Tup padL):r25 (a,(a,()))=some ((true,()),()):=by
 unfold r25 m25
 simp only[Zbs,beq_self_eq_true,Bool.not_true,cond_false]
theorem ZlS (a:Tup ppuL) (h:ZeA a):r73 (a,(a,()))=some ((true,()),()):=by
 unfold r73 m73
 rw[show r9 (a.2.2.2.2.2.2.2.1,a.2.2.2.2.2.2.2)=some ((true,()),())from by
  have:=Zdf a.2.2.2.2.2.2.2.1 a.2.2.2.2.2.2.2.1 h.2
  rw[decide_eq_true rfl]at this
  exact this]
 simp only[Zdf _ _ h.1,Option.bind_some,decide_true,Bool.not_true,cond_false,Zbs,beq_self_eq_true]
theorem ZlT (x:Tup [.int .i64, .int .i64, .int .i64]):r161 (x,(x,()))=some ((true,()),()):=by
 unfold r161 m161
 simp only[Zbs,cond_false]
theorem ZgO (a:List (Int×Int×Int)) (h1:a.length≤4398046511104): ∀(k i:Nat),i≤a.length→a.length-i<k→
  n125_0 r161 k (a,(a,())) () ((i:Int),())=some (Sum.inl ((a.length:Int),()),())
 |0,_,_,h=>absurd h (by omega)
 |k+1,i,hi,hk=>by
  unfold n125_0 w125_0
  simp only[Zac]
  by_cases h:i<a.length
  ·rw[Zal (by omega),Zav (by omega),ZaA (by omega)]
   simp only[cond_true]
   exact Zaa (ZlT ((rdE .t a (i:Int)).1,((rdE .t a (i:Int)).2.1,((rdE .t a (i:Int)).2.2,())))) (ZgO a h1 k (i+1) (by omega) (by omega))
  ·have:i=a.length:=by omega
   subst this
   rw[Zar (by omega),cond_false]
theorem Zkr (a:List (Int×Int×Int)) (h1:a.length≤4398046511104):r125 (a,(a,()))=some ((true,()),()):=by
 unfold r125 m125 L125_0
 simp only[Zac]
 have:=ZgO a h1 fuel 0 (by omega) (by have:=Zap;omega)
 simp only[Int.natCast_zero]at this
 rw[Zbs,cond_false,this]
 rfl
theorem ZgP (r:Tup Zb5) (h:r.2.1.length≤4398046511104):r74 (r,(r,()))=some ((true,()),()):=by
 unfold r74 m74
 simp only[Zbs,cond_false]
 exact Zaa (Zkr r.2.1 h) rfl
theorem ZhJ (w:Tup picL) (h:Zga w):r26 (w,(w,()))=some ((true,()),()):=by
 unfold r26 m26
 refine Zaa (ZlS (ZcL w) h.1) (Zaa (ZgP (ZbJ w) h.2.1) ?_)
 have:=Zh7 w.2.2.2.2.2.2.2.2.2.2.1 w.2.2.2.2.2.2.2.2.2.2.1 h.2.2
 rw[decide_eq_true rfl]at this
 exact Zaa this rfl
theorem Zje (w:Tup sndL) (h:Zgc w):r27 (w,(w,()))=some ((true,()),()):=by
 unfold r27 m27
 refine Zaa (ZlO (Zmo w)) (Zaa (ZgP (ZbM w) h.1) ?_)
 have:=Zdf w.2.2.2.2.2.2.2.2.2.1 w.2.2.2.2.2.2.2.2.2.1 h.2
 rw[decide_eq_true rfl]at this
 exact Zaa this rfl
theorem Zkq (a:List Int) (h:a.length≤4398046511104):r9 (a,(a,()))=some ((true,()),()):=by
 have:=Zdf a a h
 rwa [decide_eq_true rfl]at this
theorem ZdW (s:Tup Zbb) (h:Zbt s):r8 (s,(s,()))=some ((true,()),()):=by
 unfold r8 m8
 obtain ⟨h1,h2,h3,h4,h5,h6⟩:=h
 refine Zaa (Zjd (Zd7 s) h1) (Zaa (Zkq (Zce s) h2) (Zaa (ZlQ (ZdM s) h3) (Zaa (ZlP (Zfl s)) (Zaa (ZlR (Zo3 s)) ?_))))
 simp only[Zbs,beq_self_eq_true,Bool.not_true,cond_false]
 exact Zaa (Zkq (Zc7 s) h4) (Zaa (ZhJ (ZbG s) h5) (Zaa (Zje (ZdN s) h6) rfl))
def Zps (a:Tup memL) (k:Int):Tup memL:=(nums k a.1.length,a.2)
def Zkm (a:Tup memL) (k:Int):Int:=k+(a.1.length:Int)
def Zpt (a:Tup ppuL) (k:Int):Tup ppuL:=(a.1,(a.2.1,(a.2.2.1,(a.2.2.2.1,(a.2.2.2.2.1,(a.2.2.2.2.2.1,(nums k a.2.2.2.2.2.2.1.length,(nums (k+(a.2.2.2.2.2.2.1.length:Int)) a.2.2.2.2.2.2.2.1.length,()))))))))
def ZdL (a:Tup ppuL) (k:Int):Int:=k+(a.2.2.2.2.2.2.1.length:Int)+(a.2.2.2.2.2.2.2.1.length:Int)
def Zoi (r:Tup Zb5) (k:Int):Tup Zb5:=(r.1,(recs k r.2.1.length,()))
def Zcc (r:Tup Zb5) (k:Int):Int:=k+3*(r.2.1.length:Int)
theorem ZjA (f:List (List Int)) (k:Int) (h:small f) (h0:0≤k) (h1:k≤2305843009213693952):r28 ((f,()),(k,()))=some ((k+(bulk f:Int),((Zer k f,()),())),()):=by
 unfold r28 m28
 obtain ⟨a,_,b⟩:=h
 exact Zaa (Zf8 f k h0 (by omega) (by omega)) rfl
theorem Zji (f:List (List Int)) (k:Int) (h:small f) (h0:0≤k) (h1:k≤2305843009213693952):r32 ((Zer k f,()),(k,()))=some ((k+(bulk f:Int),()),()):=by
 unfold r32 m32
 obtain ⟨a,_,b⟩:=h
 refine Zaa (Zf2 f k h0 (by omega) (by omega)) ?_
 rw[Zar (show¬k+(bulk f:Int)<0 by omega)]
 rfl
theorem Zmb (a:Tup memL) (k:Int) (h:a.1.length≤4398046511104) (h0:0≤k) (h1:k≤2305843009213693952):r29 (a,(k,()))=some ((Zkm a k,(Zps a k,())),()):=by
 unfold r29 m29
 exact Zaa (Zbm a.1 k h0 (by omega)) rfl
theorem Zl0 (a:Tup memL) (k:Int) (h:a.1.length≤4398046511104) (h0:0≤k) (h1:k≤2305843009213693952):r34 (Zps a k,(k,()))=some ((Zkm a k,()),()):=by
 unfold r34 m34
 refine Zaa (ZbF a.1.length k h0 (by omega)) ?_
 rw[Zar (show¬k+(a.1.length:Int)<0 by omega)]
 rfl
theorem Zmc (a:Tup ppuL) (k:Int) (h:ZeA a) (h0:0≤k) (h1:k≤2305843009213693952):r77 (a,(k,()))=some ((ZdL a k,(Zpt a k,())),()):=by
 unfold r77 m77
 obtain ⟨a1,a2⟩:=h
 exact Zaa (Zbm a.2.2.2.2.2.2.1 k h0 (by omega)) (Zaa (Zbm a.2.2.2.2.2.2.2.1 (k+(a.2.2.2.2.2.2.1.length:Int)) (by omega) (by omega)) rfl)
theorem Zl1 (a:Tup ppuL) (k:Int) (h:ZeA a) (h0:0≤k) (h1:k≤2305843009213693952):r80 (Zpt a k,(k,()))=some ((ZdL a k,()),()):=by
 unfold r80 m80
 obtain ⟨a1,a2⟩:=h
 refine Zaa (ZbF a.2.2.2.2.2.2.1.length k h0 (by omega)) ?_
 rw[Zar (show¬k+(a.2.2.2.2.2.2.1.length:Int)<0 by omega),cond_false]
 refine Zaa (ZbF a.2.2.2.2.2.2.2.1.length (k+(a.2.2.2.2.2.2.1.length:Int)) (by omega) (by omega)) ?_
 rw[Zar (show¬k+(a.2.2.2.2.2.2.1.length:Int)+(a.2.2.2.2.2.2.2.1.length:Int)<0 by omega)]
 rfl
theorem Zha (r:Tup Zb5) (k:Int) (h:r.2.1.length≤4398046511104) (h0:0≤k) (h1:k≤2305843009213693952):r78 (r,(k,()))=some ((Zcc r k,(Zoi r k,())),()):=by
 unfold r78 m78
 exact Zaa (ZkE r.2.1 k h0 (by omega)) rfl
def Zix (w:Tup picL) (k:Int):Int:=Zcc (ZbJ w) (ZdL (ZcL w) k)+(bulk w.2.2.2.2.2.2.2.2.2.2.1:Int)
def Zmd (w:Tup picL) (k:Int):Tup picL:=(w.1,(w.2.1,(w.2.2.1,(w.2.2.2.1,(w.2.2.2.2.1,(w.2.2.2.2.2.1,(nums k w.2.2.2.2.2.2.1.length,(nums (k+(w.2.2.2.2.2.2.1.length:Int)) w.2.2.2.2.2.2.2.1.length,(w.2.2.2.2.2.2.2.2.1,
 (recs (ZdL (ZcL w) k) w.2.2.2.2.2.2.2.2.2.1.length,(Zer (Zcc (ZbJ w) (ZdL (ZcL w) k)) w.2.2.2.2.2.2.2.2.2.2.1,())))))))))))
def ZlN (w:Tup sndL) (k:Int):Int:=Zcc (ZbM w) k+(w.2.2.2.2.2.2.2.2.2.1.length:Int)
def ZoU (w:Tup sndL) (k:Int):Tup sndL:=(w.1,(w.2.1,(w.2.2.1,(w.2.2.2.1,(w.2.2.2.2.1,(w.2.2.2.2.2.1,(w.2.2.2.2.2.2.1,(w.2.2.2.2.2.2.2.1,(recs k w.2.2.2.2.2.2.2.2.1.length,(nums (Zcc (ZbM w) k) w.2.2.2.2.2.2.2.2.2.1.length,()))))))))))
theorem Zkn {a:Tup ppuL} {k:Int} (h:ZeA a):k≤ZdL a k∧ZdL a k≤k+8796093022208:=by
 obtain ⟨h1,h2⟩:=h
 unfold ZdL
 omega
theorem Zeg {r:Tup Zb5} {k:Int} (h:r.2.1.length≤4398046511104):k≤Zcc r k∧Zcc r k≤k+13194139533312:=by unfold Zcc;omega
theorem ZmM {w:Tup picL} {k:Int} (h:Zga w):k≤Zix w k∧Zix w k≤k+26388279066624:=by
 obtain ⟨h1,h2,h3,_,h4⟩:=h
 have a:=Zkn (k:=k) h1
 have b:=Zeg (k:=ZdL (ZcL w) k) h2
 unfold Zix
 omega
theorem ZoH {w:Tup sndL} {k:Int} (h:Zgc w):k≤ZlN w k∧ZlN w k≤k+17592186044416:=by
 obtain ⟨h1,h2⟩:=h
 have b:=Zeg (k:=k) h1
 unfold ZlN
 omega
theorem ZhQ (w:Tup picL) (k:Int) (h:Zga w) (h0:0≤k) (h1:k≤1152921504606846976):r30 (w,(k,()))=some ((Zix w k,(Zmd w k,())),()):=by
 unfold r30 m30
 obtain ⟨a1,a2,a3,_,a4⟩:=h
 have a:=Zkn (k:=k) a1
 have b:=Zeg (k:=ZdL (ZcL w) k) a2
 exact Zaa (Zmc (ZcL w) k a1 h0 (by omega)) (Zaa (Zha (ZbJ w) (ZdL (ZcL w) k) a2 (by omega) (by omega)) (Zaa (Zf8 w.2.2.2.2.2.2.2.2.2.2.1 (Zcc (ZbJ w) (ZdL (ZcL w) k)) (by omega) (by omega) (by omega)) rfl))
theorem ZjB (w:Tup sndL) (k:Int) (h:Zgc w) (h0:0≤k) (h1:k≤1152921504606846976):r31 (w,(k,()))=some ((ZlN w k,(ZoU w k,())),()):=by
 unfold r31 m31
 obtain ⟨a1,a2⟩:=h
 have b:=Zeg (k:=k) a1
 exact Zaa (Zha (ZbM w) k a1 (by omega) (by omega)) (Zaa (Zbm w.2.2.2.2.2.2.2.2.2.1 (Zcc (ZbM w) k) (by omega) (by omega)) rfl)
def Zc4 (s:Tup Zbb) (k:Int):Int:=ZlN (ZdN s) (Zix (ZbG s) (Zkm (ZdM s) (k+(bulk (Zd7 s):Int)+((Zce s).length:Int))+((Zc7 s).length:Int)))
theorem ZmN {s:Tup Zbb} (h:Zbt s):1≤Zc4 s 1∧Zc4 s 1≤2305843009213693952:=by
 obtain ⟨⟨_,_,a1⟩,a2,a3,a4,a5,a6⟩:=h
 unfold Zc4
 have e1:Zkm (ZdM s) (1+(bulk (Zd7 s):Int)+((Zce s).length:Int))=1+(bulk (Zd7 s):Int)+((Zce s).length:Int)+((ZdM s).1.length:Int):=rfl
 have b:=ZmM (k:=Zkm (ZdM s) (1+(bulk (Zd7 s):Int)+((Zce s).length:Int))+((Zc7 s).length:Int)) a5
 have c:=ZoH (k:=Zix (ZbG s) (Zkm (ZdM s) (1+(bulk (Zd7 s):Int)+((Zce s).length:Int))+((Zc7 s).length:Int))) a6
 omega
theorem Ze3 (l:List Rc) (hl:(l.length:Int)≤1000000000000000): ∀(f i:Nat) (k:Int),i≤l.length→l.length-i<f→0≤k→k+3*((l.length:Int)-(i:Int))≤4611686018427387904→l.drop i=recs k (l.length-i)→
  n127_0 f (l,()) () (k,((i:Int),()))=some (Sum.inl (k+3*((l.length:Int)-(i:Int)),((l.length:Int),())),())
 |0,_,_,_,h,_,_,_=>absurd h (by omega)
 |f+1,i,k,hi,hf,h0,h1,hd=>by
  have e0:n127_0 (f+1) (l,()) () (k,((i:Int),()))=bif ltI (i:Int) (l.length:Int)then (bif leI 0 (i:Int)then (bif ltI (i:Int) (l.length:Int)then (bif neI (rdE .t l (i:Int)).1 k then some (Sum.inr (-1,()),())else bif leI 0 (i:Int)then (bif ltI (i:Int) (l.length:Int)then (bif neI (rdE .t l (i:Int)).2.1 (wI (k+1))then some (Sum.inr (-1,()),())
   else bif leI 0 (i:Int)then (bif ltI (i:Int) (l.length:Int)then (bif neI (rdE .t l (i:Int)).2.2 (wI (wI (k+1)+1))then some (Sum.inr (-1,()),())else n127_0 f (l,()) () (wI (wI (wI (k+1)+1)+1),(wI ((i:Int)+1),())))else none)else none)else none)else none)else none)else none)else some (Sum.inl (k,((i:Int),())),()):=rfl
  rw[e0]
  by_cases h:i<l.length
  ·rw[Zay h,show l.length-i=(l.length-(i+1))+1 by omega,recs]at hd
   simp only[List.cons.injEq]at hd
   rw[Zal (by omega),Zav (by omega),Zaq .t l i h,hd.1,Zbk (x:=k+1) (by omega) (by omega),Zbk (x:=k+1+1) (by omega) (by omega),Zbk (x:=k+1+1+1) (by omega) (by omega),ZaA (by omega)]
   rw[Zdl rfl,Zdl rfl,Zdl (show k+2=k+1+1 by omega)]
   have ih:=Ze3 l hl f (i+1) (k+3) (by omega) (by omega) (by omega) (by omega) hd.2
   rw[show k+3+3*((l.length:Int)-((i+1:Nat):Int))=k+3*((l.length:Int)-(i:Int)) by omega,show k+3=k+1+1+1 by omega]at ih
   exact ih
  ·have:i=l.length:=by omega
   subst this
   rw[Zar (by omega),cond_false]
   simp
theorem Zkw (n:Nat) (k:Int) (h0:0≤k) (hn:n≤4398046511104) (h:k≤2305843009213693952):r127 (recs k n,(k,()))=some ((k+3*(n:Int),()),()):=by
 unfold r127 m127 L127_0
 have:=Ze3 (recs k n) (by rw[Zel];omega) fuel 0 k (by omega) (by have:=Zap;rw[Zel];omega) h0 (by rw[Zel];omega) (by simp[Zel])
 simp only[Int.natCast_zero,Int.sub_zero,Zel]at this
 exact Zaa this rfl
theorem ZgV (r:Tup Zb5) (k:Int) (h:r.2.1.length≤4398046511104) (h0:0≤k) (h1:k≤2305843009213693952):r81 (Zoi r k,(k,()))=some ((Zcc r k,()),()):=by
 unfold r81 m81
 refine Zaa (Zkw r.2.1.length k h0 h h1) ?_
 show (bif ltI (k+3*(r.2.1.length:Int)) 0 then _ else _)=_
 rw[Zar (by omega)]
 rfl
theorem ZhL (w:Tup picL) (k:Int) (h:Zga w) (h0:0≤k) (h1:k≤1152921504606846976):r35 (Zmd w k,(k,()))=some ((Zix w k,()),()):=by
 unfold r35 m35
 obtain ⟨a1,a2,a3,a5,a4⟩:=h
 have a:=Zkn (k:=k) a1
 have b:=Zeg (k:=ZdL (ZcL w) k) a2
 refine Zaa (Zl1 (ZcL w) k a1 h0 (by omega)) ?_
 show (bif ltI (ZdL (ZcL w) k) 0 then _ else _)=_
 rw[Zar (by omega),cond_false]
 refine Zaa (ZgV (ZbJ w) (ZdL (ZcL w) k) a2 (by omega) (by omega)) ?_
 show (bif ltI (Zcc (ZbJ w) (ZdL (ZcL w) k)) 0 then _ else _)=_
 rw[Zar (by omega),cond_false]
 refine Zaa (Zf2 w.2.2.2.2.2.2.2.2.2.2.1 (Zcc (ZbJ w) (ZdL (ZcL w) k)) (by omega) (by omega) (by omega)) ?_
 show (bif ltI (Zcc (ZbJ w) (ZdL (ZcL w) k)+(bulk w.2.2.2.2.2.2.2.2.2.2.1:Int)) 0 then _ else _)=_
 rw[Zar (by omega),cond_false]
 rfl
theorem Zjj (w:Tup sndL) (k:Int) (h:Zgc w) (h0:0≤k) (h1:k≤1152921504606846976):r36 (ZoU w k,(k,()))=some ((ZlN w k,()),()):=by
 unfold r36 m36
 obtain ⟨a1,a2⟩:=h
 have b:=Zeg (k:=k) a1
 refine Zaa (ZgV (ZbM w) k a1 h0 (by omega)) ?_
 show (bif ltI (Zcc (ZbM w) k) 0 then _ else _)=_
 rw[Zar (by omega),cond_false]
 refine Zaa (ZbF w.2.2.2.2.2.2.2.2.2.1.length (Zcc (ZbM w) k) (by omega) (by omega)) ?_
 show (bif ltI (Zcc (ZbM w) k+(w.2.2.2.2.2.2.2.2.2.1.length:Int)) 0 then _ else _)=_
 rw[Zar (by omega),cond_false]
 rfl
def s1K (s:Tup Zbb):Int:=1+(bulk (Zd7 s):Int)
def s2K (s:Tup Zbb):Int:=s1K s+((Zce s).length:Int)
def s3K (s:Tup Zbb):Int:=Zkm (ZdM s) (s2K s)
def s4K (s:Tup Zbb):Int:=s3K s+((Zc7 s).length:Int)
def s5K (s:Tup Zbb):Int:=Zix (ZbG s) (s4K s)
def Zm2 (s:Tup Zbb):Tup Zbb:=(Zer 1 (Zd7 s),(nums (s1K s) (Zce s).length,(nums (s2K s) (ZdM s).1.length,((ZdM s).2.1,((Zfl s).1,((Zfl s).2.1,((Zfl s).2.2.1,((Zfl s).2.2.2.1,((Zfl s).2.2.2.2.1,((Zfl s).2.2.2.2.2.1,((Zfl s).2.2.2.2.2.2.1,((Zfl s).2.2.2.2.2.2.2.1,
 ((Zo3 s).1,((Zo3 s).2.1,(spT s,(ZpL s,(Zop s,(Zo2 s,(ZjT s,(Znh s,(nums (s3K s) (Zc7 s).length,
 ((ZbG s).1,((ZbG s).2.1,((ZbG s).2.2.1,((ZbG s).2.2.2.1,((ZbG s).2.2.2.2.1,((ZbG s).2.2.2.2.2.1,((Zmd (ZbG s) (s4K s)).2.2.2.2.2.2.1,((Zmd (ZbG s) (s4K s)).2.2.2.2.2.2.2.1,((ZbG s).2.2.2.2.2.2.2.2.1,((Zmd (ZbG s) (s4K s)).2.2.2.2.2.2.2.2.2.1,((Zmd (ZbG s) (s4K s)).2.2.2.2.2.2.2.2.2.2.1,ZoU (ZdN s) (s5K s)))))))))))))))))))))))))))))))))
structure SpB (s:Tup Zbb):Prop where
 b1:1≤s1K s∧s1K s≤4398046511105
 b2:1≤s2K s∧s2K s≤8796093022209
 b3:1≤s3K s∧s3K s≤13194139533313
 b4:1≤s4K s∧s4K s≤17592186044417
 b5:1≤s5K s∧s5K s≤43980465111041
 b6:1≤Zc4 s 1∧Zc4 s 1≤2305843009213693952
theorem spB {s:Tup Zbb} (h:Zbt s):SpB s:=by
 have b6:=ZmN h
 obtain ⟨⟨_,_,a1⟩,a2,a3,a4,a5,a6⟩:=h
 have e3:s3K s=s2K s+((ZdM s).1.length:Int):=rfl
 have e5:=ZmM (k:=s4K s) a5
 have e6:Zix (ZbG s) (s4K s)=s5K s:=rfl
 have e1:s1K s=1+(bulk (Zd7 s):Int):=rfl
 have e2:s2K s=s1K s+((Zce s).length:Int):=rfl
 have e4:s4K s=s3K s+((Zc7 s).length:Int):=rfl
 exact ⟨by omega,by omega,by omega,by omega,by omega,b6⟩
theorem ZkF (s:Tup Zbb) (h:Zbt s):r11 (s,((1:Int),()))=some ((Zc4 s 1,(Zm2 s,())),()):=by
 obtain ⟨b1,b2,b3,b4,b5,b6⟩:=spB h
 unfold r11 m11
 obtain ⟨a1,a2,a3,a4,a5,a6⟩:=h
 exact Zaa (ZjA (Zd7 s) 1 a1 (by omega) (by omega)) (Zaa (Zbm (Zce s) (s1K s) (by omega) (by omega)) (Zaa (Zmb (ZdM s) (s2K s) a3 (by omega) (by omega)) (Zaa (Zbm (Zc7 s) (s3K s) (by omega) (by omega)) (Zaa (ZhQ (ZbG s) (s4K s) a5 (by omega) (by omega)) (Zaa (ZjB (ZdN s) (s5K s) a6 (by omega) (by omega)) rfl)))))
theorem Zf3 (s:Tup Zbb) (h:Zbt s):r12 (Zm2 s,((1:Int),()))=some ((Zc4 s 1,()),()):=by
 obtain ⟨b1,b2,b3,b4,b5,b6⟩:=spB h
 unfold r12 m12
 obtain ⟨a1,a2,a3,a4,a5,a6⟩:=h
 refine Zaa (Zji (Zd7 s) 1 a1 (by omega) (by omega)) ?_
 show (bif ltI (s1K s) 0 then _ else _)=_
 rw[Zar (by omega),cond_false]
 refine Zaa (ZbF (Zce s).length (s1K s) (by omega) (by omega)) ?_
 show (bif ltI (s2K s) 0 then _ else _)=_
 rw[Zar (by omega),cond_false]
 refine Zaa (Zl0 (ZdM s) (s2K s) a3 (by omega) (by omega)) ?_
 show (bif ltI (s3K s) 0 then _ else _)=_
 rw[Zar (by omega),cond_false]
 refine Zaa (ZbF (Zc7 s).length (s3K s) (by omega) (by omega)) ?_
 show (bif ltI (s4K s) 0 then _ else _)=_
 rw[Zar (by omega),cond_false]
 refine Zaa (ZhL (ZbG s) (s4K s) a5 (by omega) (by omega)) ?_
 show (bif ltI (s5K s) 0 then _ else _)=_
 rw[Zar (by omega),cond_false]
 refine Zaa (Zjj (ZdN s) (s5K s) a6 (by omega) (by omega)) ?_
 show (bif ltI (Zc4 s 1) 0 then _ else _)=_
 rw[Zar (by omega),cond_false]
 rfl

end Go.Proofs.YtmlahgmhbdpkjaaGreatDoor.Plain
