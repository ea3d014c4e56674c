/- Plain laws of the printed functions: Mark, LawFns, LawSp. No condition beyond those that each lemma states. -/
import Derived.Test.YtleidaafbhojfaaGreatDoorPE
set_option linter.unusedVariables false
set_option linter.unusedSimpArgs false
namespace Go.Proofs.YtleidaafbhojfaaGreatDoor.Plain
open Go Go.Tev
def nums (k:Int):Nat→List Int|0=>[]|n+1=>k::nums (k+1) n
theorem Zhs: ∀(n:Nat) (k:Int),(nums k n).length=n
 |0,_=>rfl
 |n+1,k=>by simp[nums,Zhs n]
theorem Zmv {α:Type} {out:List α} {i:Nat} (h:i<out.length) (x:α):(out.set i x).take (i+1)=out.take i++[x]:=by
 apply List.ext_getElem?
 intro j
 rcases Nat.lt_trichotomy j i with hj|hj|hj
 ·rw[List.getElem?_append_left (by simp;omega),List.getElem?_take_of_lt (by omega),List.getElem?_take_of_lt hj,List.getElem?_set_ne (by omega)]
 ·subst hj
  rw[List.getElem?_append_right (by simp;omega),List.getElem?_take_of_lt (by omega),List.getElem?_set_self h]
  simp[Nat.min_eq_left (Nat.le_of_lt h)]
 ·rw[List.getElem?_eq_none (by simp;omega),List.getElem?_eq_none (by simp;omega)]
theorem Zua {α:Type} {out:List α} {i:Nat} (x:α):(out.set i x).drop (i+1)=out.drop (i+1):=by
 apply List.ext_getElem?
 intro j
 rw[List.getElem?_drop,List.getElem?_drop,List.getElem?_set_ne (by omega)]
theorem Zvz {k:Int} (h0:0≤k) (h:k<4611686018427387904):wI (k+1)=k+1:=Zas (by omega) (by omega)
theorem ZiX: ∀(f i:Nat) (out:List Int) (k:Int),i≤out.length→out.length-i<f→0≤k→k+((out.length:Int)-(i:Int))≤4611686018427387904→(out.length:Int)≤4611686018427387904→
  n54_0 f () () (k,((i:Int),(out,())))=some (Sum.inl (k+((out.length:Int)-(i:Int)),((out.length:Int),(out.take i++nums k (out.length-i),()))),())
 |0,_,_,_,_,h,_,_,_=>absurd h (by omega)
 |f+1,i,out,k,hi,hf,h0,h1,h2=>by
  unfold n54_0 w54_0
  simp only[Zad]
  by_cases h:i<out.length
  ·rw[Zaj (by omega),Zay (by omega),ZaL (by omega),Zvz h0 (by omega)]
   simp only[cond_true,Int.toNat_natCast]
   rw[ZiX f (i+1) (out.set i k) (k+1) (by simp;omega) (by simp;omega) (by omega) (by simp;omega) (by simpa using h2),Zmv h]
   simp only[List.length_set]
   rw[show out.length-i=(out.length-(i+1))+1 by omega,nums,show k+1+((out.length:Int)-((i+1:Nat):Int))=k+((out.length:Int)-(i:Int)) by omega]
   simp
  ·have:i=out.length:=by omega
   subst this
   rw[Zam (by omega),cond_false]
   simp[nums]
theorem ZcF (l:List Int) (k:Int) (h0:0≤k) (h:k+(l.length:Int)≤4611686018427387904):r54 (l,(k,()))=some ((k+(l.length:Int),(nums k l.length,())),()):=by
 unfold r54 m54 L54_0
 have:=ZiX fuel 0 l k (by omega) (by have:=Zaq;omega) h0 (by omega) (by omega)
 simp only[Int.natCast_zero,Int.sub_zero,Nat.sub_zero,List.take_zero,List.nil_append]at this
 simp only[this]
 rfl
theorem ZiJ (l:List Int) (hl:(l.length:Int)≤4611686018427387904): ∀(f i:Nat) (k:Int),i≤l.length→l.length-i<f→0≤k→k+((l.length:Int)-(i:Int))≤4611686018427387904→l.drop i=nums k (l.length-i)→
  n59_0 f (l,()) () (k,((i:Int),()))=some (Sum.inl (k+((l.length:Int)-(i:Int)),((l.length:Int),())),())
 |0,_,_,_,h,_,_,_=>absurd h (by omega)
 |f+1,i,k,hi,hf,h0,h1,hd=>by
  unfold n59_0 w59_0
  simp only[Zad]
  by_cases h:i<l.length
  ·rw[ZaQ h,show l.length-i=(l.length-(i+1))+1 by omega,nums]at hd
   simp only[List.cons.injEq]at hd
   rw[Zaj (by omega),Zay (by omega),ZaA .i l i h,ZcN hd.1,ZaL (by omega),Zvz h0 (by omega)]
   simp only[cond_true,cond_false]
   rw[ZiJ l hl f (i+1) (k+1) (by omega) (by omega) (by omega) (by omega) hd.2,show k+1+((l.length:Int)-((i+1:Nat):Int))=k+((l.length:Int)-(i:Int)) by omega]
  ·have:i=l.length:=by omega
   subst this
   rw[Zam (by omega),cond_false]
   simp
theorem ZcE (n:Nat) (k:Int) (h0:0≤k) (h:k+(n:Int)≤4611686018427387904):r59 (nums k n,(k,()))=some ((k+(n:Int),()),()):=by
 unfold r59 m59 L59_0
 have:=ZiJ (nums k n) (by rw[Zhs];omega) fuel 0 k (by omega) (by have:=Zaq;rw[Zhs];omega) h0 (by rw[Zhs];omega) (by simp[Zhs])
 simp only[Int.natCast_zero,Int.sub_zero,Zhs]at this
 simp only[this]
 rfl
def ZhG (k:Int):List (List Int)→List (List Int)| []=>[]|l::f=>nums k l.length::ZhG (k+(l.length:Int)) f
theorem Zi1: ∀(f:List (List Int)) (k:Int),(ZhG k f).length=f.length
 | [],_=>rfl
 |l::f,k=>by simp[ZhG,Zi1 f]
theorem ZhR: ∀(f i:Nat) (out:List (List Int)) (k:Int),i≤out.length→out.length-i<f→0≤k→k+(bulk (out.drop i):Int)≤4611686018427387904→(out.length:Int)≤4611686018427387904→
  n129_0 r54 f () () (k,((i:Int),(out,())))=some (Sum.inl (k+(bulk (out.drop i):Int),((out.length:Int),(out.take i++ZhG k (out.drop i),()))),())
 |0,_,_,_,_,h,_,_,_=>absurd h (by omega)
 |f+1,i,out,k,hi,hf,h0,h1,h2=>by
  unfold n129_0 w129_0
  simp only[Zad]
  by_cases h:i<out.length
  ·rw[ZaQ h]at h1⊢
   simp only[bulk]at h1⊢
   rw[Zaj (by omega),Zay (by omega),ZaA .n out i h,ZaL (by omega),ZcF _ k h0 (by omega)]
   simp only[cond_true,Int.toNat_natCast,Option.bind_some]
   have e:=Zua (out:=out) (i:=i) (nums k out[i].length)
   rw[ZhR f (i+1) (out.set i (nums k out[i].length)) (k+(out[i].length:Int)) (by simp;omega) (by simp;omega) (by omega) (by rw[e];omega) (by simpa using h2),Zmv h,e]
   simp only[List.length_set,ZhG]
   rw[show k+(out[i].length:Int)+(bulk (out.drop (i+1)):Int)=k+((out[i].length+bulk (out.drop (i+1)):Nat):Int) by omega]
   simp
  ·have:i=out.length:=by omega
   subst this
   rw[Zam (by omega),cond_false]
   simp[ZhG,bulk]
theorem Zkk (l:List (List Int)) (k:Int) (h0:0≤k) (h:k+(bulk l:Int)≤4611686018427387904) (hl:(l.length:Int)≤4611686018427387904):r129 (l,(k,()))=some ((k+(bulk l:Int),(ZhG k l,())),()):=by
 unfold r129 m129 L129_0
 have:=ZhR fuel 0 l k (by omega) (by have:=Zaq;omega) h0 (by simpa using h) (by omega)
 simp only[Int.natCast_zero,List.drop_zero,List.take_zero,List.nil_append]at this
 simp only[this]
 rfl
theorem ZhL (a:List (List Int)) (ha:(a.length:Int)≤4611686018427387904): ∀(f i:Nat) (g:List (List Int)) (k:Int),i≤a.length→a.length-i<f→0≤k→k+(bulk g:Int)≤4611686018427387904→a.drop i=ZhG k g→
  n132_0 r59 f (a,()) () (k,((i:Int),()))=some (Sum.inl (k+(bulk g:Int),((a.length:Int),())),())
 |0,_,_,_,_,h,_,_,_=>absurd h (by omega)
 |f+1,i,g,k,hi,hf,h0,h1,hd=>by
  unfold n132_0 w132_0
  simp only[Zad]
  by_cases h:i<a.length
  ·rw[ZaQ h]at hd
   cases g with
   |nil=>exact absurd hd (List.cons_ne_nil _ _)
   |cons l g=>
    simp only[ZhG,List.cons.injEq]at hd
    simp only[bulk]at h1⊢
    rw[Zaj (by omega),Zay (by omega),ZaA .n a i h,hd.1,ZcE l.length k h0 (by omega),ZaL (by omega)]
    simp only[cond_true,Option.bind_some]
    rw[Zam (show¬k+(l.length:Int)<0 by omega),cond_false,ZhL a ha f (i+1) g (k+(l.length:Int)) (by omega) (by omega) (by omega) (by omega) hd.2]
    rw[show k+(l.length:Int)+(bulk g:Int)=k+((l.length+bulk g:Nat):Int) by omega]
  ·have:i=a.length:=by omega
   subst this
   rw[List.drop_length]at hd
   cases g with
   |nil=>
    rw[Zam (by omega),cond_false]
    simp[bulk]
   |cons l g=>simp[ZhG]at hd
theorem Zka (l:List (List Int)) (k:Int) (h0:0≤k) (h:k+(bulk l:Int)≤4611686018427387904) (hl:(l.length:Int)≤4611686018427387904):r132 (ZhG k l,(k,()))=some ((k+(bulk l:Int),()),()):=by
 unfold r132 m132 L132_0
 have:=ZhL (ZhG k l) (by rw[Zi1];omega) fuel 0 l k (by omega) (by have:=Zaq;rw[Zi1];omega) h0 h (by simp)
 simp only[Int.natCast_zero,Zi1]at this
 simp only[this]
 rfl
def recs (k:Int):Nat→List (Int×Int×Int)|0=>[]|n+1=>(k,k+1,k+2)::recs (k+3) n
theorem Zhx: ∀(n:Nat) (k:Int),(recs k n).length=n
 |0,_=>rfl
 |n+1,k=>by simp[recs,Zhx n]
theorem ZxN (l:List (Int×Int×Int)) (i:Nat) (x:Int×Int×Int) (h:i<l.length):rdE .t (l.set i x) (i:Int)=x:=by
 rw[ZaA .t _ i (by simpa using h)]
 simp
theorem ZiY: ∀(f i:Nat) (out:List (Int×Int×Int)) (k:Int),i≤out.length→out.length-i<f→0≤k→k+3*((out.length:Int)-(i:Int))≤4611686018427387904→(out.length:Int)≤4611686018427387904→
  n206_0 f () () (k,((i:Int),(out,())))=some (Sum.inl (k+3*((out.length:Int)-(i:Int)),((out.length:Int),(out.take i++recs k (out.length-i),()))),())
 |0,_,_,_,_,h,_,_,_=>absurd h (by omega)
 |f+1,i,out,k,hi,hf,h0,h1,h2=>by
  unfold n206_0 w206_0
  simp only[Zad,Int.toNat_natCast,List.length_set]
  by_cases h:i<out.length
  ·have e1:wI (k+1)=k+1:=Zvz h0 (by omega)
   have e2:wI (k+1+1)=k+2:=by rw[Zvz (by omega) (by omega)];omega
   have e3:wI (k+2+1)=k+3:=by rw[Zvz (by omega) (by omega)];omega
   rw[Zaj (by omega),Zay (by omega),ZaL (by omega)]
   simp only[cond_true,e1,e2,e3,ZxN _ _ _ h,List.set_set]
   have e: ∀y:Int×Int×Int,setT (setT (setT y k (0+0)) (k+1) (0+1)) (k+2) (0+2)=(k,k+1,k+2):=fun y=>rfl
   rw[e,ZiY f (i+1) (out.set i (k,k+1,k+2)) (k+3) (by simp;omega) (by simp;omega) (by omega) (by simp;omega) (by simpa using h2),Zmv h]
   simp only[List.length_set]
   rw[show out.length-i=(out.length-(i+1))+1 by omega,recs,show k+3+3*((out.length:Int)-((i+1:Nat):Int))=k+3*((out.length:Int)-(i:Int)) by omega]
   simp
  ·have:i=out.length:=by omega
   subst this
   rw[Zam (by omega),cond_false]
   simp[recs]
theorem ZqX (l:List (Int×Int×Int)) (k:Int) (h0:0≤k) (h:k+3*(l.length:Int)≤4611686018427387904):r206 (l,(k,()))=some ((k+3*(l.length:Int),(recs k l.length,())),()):=by
 unfold r206 m206 L206_0
 have:=ZiY fuel 0 l k (by omega) (by have:=Zaq;omega) h0 (by omega) (by omega)
 simp only[Int.natCast_zero,Int.sub_zero,Nat.sub_zero,List.take_zero,List.nil_append]at this
 simp only[this]
 rfl
theorem Zc1 (a:Int):neI a a=false:=ZcN rfl
theorem ZtG (l:List (List Int)) (h:small l):r31 ((l,()),())=some (((l,()),()),()):=by
 unfold r31 m31
 simp only[ZnP l h,Option.bind_some]
theorem Zwy (a:Tup memL) (h:a.1.length≤4398046511104):r33 (a,())=some ((a,()),()):=by
 unfold r33 m33
 simp only[Zev a.1 h,Option.bind_some]
theorem Zww (a:Tup cpuL):r34 (a,())=some ((a,()),()):=rfl
theorem Zwv (a:Tup apuL):r110 (a,())=some ((a,()),()):=rfl
theorem Zwz (a:Tup ppuL) (h:Zer a):r108 (a,())=some ((a,()),()):=by
 unfold r108 m108
 simp only[Zev _ h.1,Option.bind_some]
 rw[show r32 a.2.2.2.2.2.2.2=some ((a.2.2.2.2.2.2.2.1,()),())from Zev _ h.2]
 rfl
theorem Zpc (l:List (List Int)) (h:small l):r46 ((l,()),((l,()),()))=some ((true,()),()):=by
 unfold r46 m46
 simp only[Zng l l h,Option.bind_some,decide_true,Bool.not_true,cond_false]
theorem ZsN (a:Tup memL) (h:a.1.length≤4398046511104):r48 (a,(a,()))=some ((true,()),()):=by
 unfold r48 m48
 simp only[Zfp _ _ h,Option.bind_some,decide_true,Bool.not_true,cond_false,Zc1]
theorem ZsM (a:Tup cpuL):r49 (a,(a,()))=some ((true,()),()):=by
 unfold r49 m49
 simp only[Zc1,beq_self_eq_true,Bool.not_true,cond_false]
theorem ZsL (a:Tup apuL):r128 (a,(a,()))=some ((true,()),()):=by
 unfold r128 m128
 simp only[Zc1,beq_self_eq_true,Bool.not_true,cond_false]
theorem ZsO (a:Tup padL):r50 (a,(a,()))=some ((true,()),()):=by
 unfold r50 m50
 simp only[Zc1,beq_self_eq_true,Bool.not_true,cond_false]
theorem ZsP (a:Tup ppuL) (h:Zer a):r126 (a,(a,()))=some ((true,()),()):=by
 unfold r126 m126
 rw[show r47 (a.2.2.2.2.2.2.2.1,a.2.2.2.2.2.2.2)=some ((true,()),())from by
  have:=Zfp a.2.2.2.2.2.2.2.1 a.2.2.2.2.2.2.2.1 h.2
  rw[decide_eq_true rfl]at this
  exact this]
 simp only[Zfp _ _ h.1,Option.bind_some,decide_true,Bool.not_true,cond_false,Zc1,beq_self_eq_true]
theorem sz1 (a:List Int) (n:Int) (h0:0≤n) (h1:n≤1048576) (hl:a.length≤maxLen): ∃m:Int,r19 (a,(n,()))=some ((m,()),())∧m≤n∧(0≤m→a.length≤1048576):=by
 refine ⟨left n a.length,Zqc a n h0 h1 hl,?_,?_⟩<;>unfold left<;>split<;>omega
theorem sz2 (a:List (List Int)) (n:Int) (h0:0≤n) (h1:n≤1048576) (hw:wfL (.sl false .n) a): ∃m:Int,r89 (a,(n,()))=some ((m,()),())∧m≤n∧(0≤m→small a):=by
 refine ⟨left n (a.length+bulk a),ZtB a n h0 h1 hw.1 (fun l hl=>(hw.2 l hl).1),?_,?_⟩
 ·unfold left;split<;>omega
 ·unfold left
  split
  ·intro h;omega
  ·intro _
   refine ⟨by omega,fun l hl=> ?_,by omega⟩
   have:=Zrz hl
   omega
theorem ZtA (a:List (List Int)) (n:Int) (h0:0≤n) (h1:n≤1048576) (hw:wfL (.sl false .n) a): ∃m:Int,r18 ((a,()),(n,()))=some ((m,()),())∧m≤n∧(0≤m→small a):=by
 obtain ⟨m,e,h2,h3⟩:=sz2 a n h0 h1 hw
 unfold r18 m18
 simp only[e,Option.bind_some]
 by_cases hm:m<0
 ·exact ⟨-1,by rw[Zaj hm];rfl,by omega,fun h=>absurd h (by decide)⟩
 ·exact ⟨m,by rw[Zam hm];rfl,h2,h3⟩
theorem Zws (a:Tup memL) (n:Int) (h0:0≤n) (h1:n≤1048576) (hw:wfLs memL a): ∃m:Int,r20 (a,(n,()))=some ((m,()),())∧m≤n∧(0≤m→a.1.length≤1048576):=by
 obtain ⟨m,e,h2,h3⟩:=sz1 a.1 n h0 h1 hw.1.1
 unfold r20 m20
 simp only[e,Option.bind_some]
 by_cases hm:m<0
 ·exact ⟨-1,by rw[Zaj hm];rfl,by omega,fun h=>absurd h (by decide)⟩
 ·exact ⟨m,by rw[Zam hm];rfl,h2,h3⟩
theorem Zwt (a:Tup ppuL) (n:Int) (h0:0≤n) (h1:n≤1048576) (hw:wfLs ppuL a): ∃m:Int,r90 (a,(n,()))=some ((m,()),())∧m≤n∧(0≤m→Zer a):=by
 obtain ⟨_,_,_,_,_,_,w1,w2,_⟩:=hw
 obtain ⟨m,e,h2,h3⟩:=sz1 a.2.2.2.2.2.2.1 n h0 h1 w1.1
 unfold r90 m90
 simp only[e,Option.bind_some]
 by_cases hm:m<0
 ·exact ⟨-1,by rw[Zaj hm];rfl,by omega,fun h=>absurd h (by decide)⟩
 rw[Zam hm,cond_false]
 obtain ⟨m2,e2,h4,h5⟩:=sz1 a.2.2.2.2.2.2.2.1 m (by omega) (by omega) w2.1
 simp only[e2,Option.bind_some]
 by_cases hm2:m2<0
 ·exact ⟨-1,by rw[Zaj hm2];rfl,by omega,fun h=>absurd h (by decide)⟩
 ·exact ⟨m2,by rw[Zam hm2];rfl,by omega,fun h=>⟨by have:=h3 (by omega);omega,by have:=h5 h;omega⟩⟩
theorem ZwA (y:PTup i246):r246 y=some ((y.1,()),()):=rfl
theorem ZsQ (x:Tup [.int .i64, .int .i64, .int .i64]):r271 (x,(x,()))=some ((true,()),()):=by
 unfold r271 m271
 simp only[Zc1,cond_false]
theorem ZmB (l:List (Int×Int×Int)) (hl:l.length≤4398046511104): ∀(k i:Nat) (out:List (Int×Int×Int)),i≤l.length→out.length=l.length→l.length-i<k→
  n186_0 r246 k (l,()) () ((i:Int),(out,()))=some (Sum.inl ((l.length:Int),(out.take i++l.drop i,())),())
 |0,_,_,_,_,h=>absurd h (by omega)
 |k+1,i,out,hi,ho,hk=>by
  unfold n186_0 w186_0
  simp only[Zad]
  by_cases h:i<l.length
  ·rw[Zaj (by omega),Zay (by omega),Zaj (by omega),ZaL (by omega)]
   simp only[cond_true,Int.toNat_natCast,ZwA,Option.bind_some]
   rw[ZaA .t l i h,ZmB l hl k (i+1) _ (by omega) (by simpa using ho) (by omega),ZoL h ho]
  ·have:i=l.length:=by omega
   subst this
   rw[Zam (by omega),cond_false,List.take_of_length_le (by omega),List.drop_length,List.append_nil]
theorem Zvu (l:List (Int×Int×Int)) (hl:l.length≤4398046511104):r186 (l,())=some ((l,()),()):=by
 unfold r186 m186 L186_0
 simp only[Zad,Int.toNat_natCast]
 rw[Zbn (by simp only[E.most];omega)]
 have:=ZmB l hl fuel 0 (List.replicate l.length (0,0,0)) (by omega) (by simp) (by have:=Zaq;omega)
 simp only[Int.natCast_zero]at this
 simp only[cond_true,this]
 simp[Zai]
theorem Zlj (a:List (Int×Int×Int)) (h1:a.length≤4398046511104): ∀(k i:Nat),i≤a.length→a.length-i<k→
  n205_0 r271 k (a,(a,())) () ((i:Int),())=some (Sum.inl ((a.length:Int),()),())
 |0,_,_,h=>absurd h (by omega)
 |k+1,i,hi,hk=>by
  unfold n205_0 w205_0
  simp only[Zad]
  by_cases h:i<a.length
  ·rw[Zaj (by omega),Zay (by omega),ZaL (by omega)]
   simp only[cond_true]
   exact Zaa (ZsQ ((rdE .t a (i:Int)).1,((rdE .t a (i:Int)).2.1,((rdE .t a (i:Int)).2.2,())))) (Zlj a h1 k (i+1) (by omega) (by omega))
  ·have:i=a.length:=by omega
   subst this
   rw[Zam (by omega),cond_false]
theorem ZqD (a:List (Int×Int×Int)) (h1:a.length≤4398046511104):r205 (a,(a,()))=some ((true,()),()):=by
 unfold r205 m205 L205_0
 simp only[Zad]
 have:=Zlj a h1 fuel 0 (by omega) (by have:=Zaq;omega)
 simp only[Int.natCast_zero]at this
 rw[Zc1,cond_false,this]
 rfl
theorem Zvk (a:List (Int×Int×Int)) (n:Int) (h0:0≤n) (h1:n≤1048576) (hl:a.length≤maxLen): ∃m:Int,r163 (a,(n,()))=some ((m,()),())∧m≤n∧(0≤m→a.length≤1048576):=by
 refine ⟨left n a.length,?_,?_,?_⟩
 ·unfold r163 m163
  simp only[Zad]
  have:maxLen=9223372036854775807:=rfl
  rw[Zas (by omega) (by omega)]
  by_cases h:n< (a.length:Int)
  ·rw[Zaj (show n-(a.length:Int)<0 by omega)];simp[left,h]
  ·rw[Zam (by omega)];simp[left,h]
 ·unfold left;split<;>omega
 ·unfold left;split<;>omega
theorem Zqo (r:Tup ZcO) (h:r.2.1.length≤4398046511104):r109 (r,())=some ((r,()),()):=by
 unfold r109 m109
 exact Zaa (Zvu r.2.1 h) rfl
theorem Zqn (w:Tup picL) (h:ZgR w):r36 (w,())=some ((w,()),()):=by
 unfold r36 m36
 exact Zaa (Zwz (Zdh w) h.1) (Zaa (Zqo (Zcb w) h.2.1) (Zaa (ZnP w.2.2.2.2.2.2.2.2.2.2.1 h.2.2) rfl))
theorem ZtH (w:Tup sndL) (h:Zg2 w):r37 (w,())=some ((w,()),()):=by
 unfold r37 m37
 exact Zaa (Zwv (Zp2 w)) (Zaa (Zqo (Zcc w) h.1) (Zaa (Zev w.2.2.2.2.2.2.2.2.2.1 h.2) rfl))
theorem ZhC (s:Tup ZaO) (h:Zal s):r7 (s,())=some ((s,()),()):=by
 unfold r7 m7
 obtain ⟨h1,h2,h3,h4,h5,h6⟩:=h
 exact Zaa (ZtG (Zez s) h1) (Zaa (Zev (Zcq s) h2) (Zaa (Zwy (ZdG s) h3) (Zaa (Zww (Zd4 s)) (Zaa (show r35 (Zp3 s,())=some ((Zp3 s,()),())from rfl) (Zaa (Zev (Zb9 s) h4) (Zaa (Zqn (ZbE s) h5) (Zaa (ZtH (Zcz s) h6) rfl)))))))
theorem Zlk (r:Tup ZcO) (h:r.2.1.length≤4398046511104):r127 (r,(r,()))=some ((true,()),()):=by
 unfold r127 m127
 simp only[Zc1,cond_false]
 exact Zaa (ZqD r.2.1 h) rfl
theorem ZmJ (w:Tup picL) (h:ZgR w):r51 (w,(w,()))=some ((true,()),()):=by
 unfold r51 m51
 refine Zaa (ZsP (Zdh w) h.1) (Zaa (Zlk (Zcb w) h.2.1) ?_)
 have:=Zng w.2.2.2.2.2.2.2.2.2.2.1 w.2.2.2.2.2.2.2.2.2.2.1 h.2.2
 rw[decide_eq_true rfl]at this
 exact Zaa this rfl
theorem Zpd (w:Tup sndL) (h:Zg2 w):r52 (w,(w,()))=some ((true,()),()):=by
 unfold r52 m52
 refine Zaa (ZsL (Zp2 w)) (Zaa (Zlk (Zcc w) h.1) ?_)
 have:=Zfp w.2.2.2.2.2.2.2.2.2.1 w.2.2.2.2.2.2.2.2.2.1 h.2
 rw[decide_eq_true rfl]at this
 exact Zaa this rfl
theorem Zud (a:List Int) (h:a.length≤4398046511104):r47 (a,(a,()))=some ((true,()),()):=by
 have:=Zfp a a h
 rwa [decide_eq_true rfl]at this
theorem ZeF (s:Tup ZaO) (h:Zal s):r9 (s,(s,()))=some ((true,()),()):=by
 unfold r9 m9
 obtain ⟨h1,h2,h3,h4,h5,h6⟩:=h
 refine Zaa (Zpc (Zez s) h1) (Zaa (Zud (Zcq s) h2) (Zaa (ZsN (ZdG s) h3) (Zaa (ZsM (Zd4 s)) (Zaa (ZsO (Zp3 s)) ?_))))
 simp only[Zc1,beq_self_eq_true,Bool.not_true,cond_false]
 exact Zaa (Zud (Zb9 s) h4) (Zaa (ZmJ (ZbE s) h5) (Zaa (Zpd (Zcz s) h6) rfl))
theorem Zqe (r:Tup ZcO) (n:Int) (h0:0≤n) (h1:n≤1048576) (hl:r.2.1.length≤maxLen): ∃m:Int,r91 (r,(n,()))=some ((m,()),())∧m≤n∧(0≤m→r.2.1.length≤1048576):=by
 obtain ⟨m,e,h2,h3⟩:=Zvk r.2.1 n h0 h1 hl
 unfold r91 m91
 refine ⟨if m<0 then-1 else m,Zaa e ?_,by split<;>omega,by split<;>(intro;omega)⟩
 by_cases hm:m<0
 ·rw[Zaj hm,if_pos hm];rfl
 ·rw[Zam hm,if_neg hm];rfl
theorem Zqd (w:Tup picL) (n:Int) (h0:0≤n) (h1:n≤1048576) (hw:wfLs picL w): ∃m:Int,r21 (w,(n,()))=some ((m,()),())∧m≤n∧(0≤m→ZgR w):=by
 obtain ⟨p1,p2,p3,p4,p5,p6,p7,p8,rc,rl,fr,_⟩:=hw
 obtain ⟨m1,e1,l1,k1⟩:=Zwt (Zdh w) n h0 h1 ⟨p1,p2,p3,p4,p5,p6,p7,p8,trivial⟩
 unfold r21 m21
 by_cases hm1:m1<0
 ·exact ⟨-1,Zaa e1 (by rw[Zaj hm1];rfl),by omega,fun h=>absurd h (by decide)⟩
 obtain ⟨m2,e2,l2,k2⟩:=Zqe (Zcb w) m1 (by omega) (by omega) rl.1
 by_cases hm2:m2<0
 ·exact ⟨-1,Zaa e1 (by rw[Zam hm1];exact Zaa e2 (by rw[Zaj hm2];rfl)),by omega,fun h=>absurd h (by decide)⟩
 obtain ⟨m3,e3,l3,k3⟩:=sz2 w.2.2.2.2.2.2.2.2.2.2.1 m2 (by omega) (by omega) fr
 by_cases hm3:m3<0
 ·exact ⟨-1,Zaa e1 (by rw[Zam hm1];exact Zaa e2 (by rw[Zam hm2];exact Zaa e3 (by rw[Zaj hm3];rfl))),by omega,fun h=>absurd h (by decide)⟩
 ·exact ⟨m3,Zaa e1 (by rw[Zam hm1];exact Zaa e2 (by rw[Zam hm2];exact Zaa e3 (by rw[Zam hm3];rfl))),by omega,fun h=>⟨k1 (by omega),by have:=k2 (by omega);omega,k3 h⟩⟩
theorem ZtC (w:Tup sndL) (n:Int) (h0:0≤n) (h1:n≤1048576) (hw:wfLs sndL w): ∃m:Int,r22 (w,(n,()))=some ((m,()),())∧m≤n∧(0≤m→Zg2 w):=by
 obtain ⟨_,_,_,_,_,_,_,rc,rl,sm,_⟩:=hw
 unfold r22 m22
 obtain ⟨m2,e2,l2,k2⟩:=Zqe (Zcc w) n (by omega) (by omega) rl.1
 by_cases hm2:m2<0
 ·exact ⟨-1,Zaa e2 (by rw[Zaj hm2];rfl),by omega,fun h=>absurd h (by decide)⟩
 obtain ⟨m3,e3,l3,k3⟩:=sz1 w.2.2.2.2.2.2.2.2.2.1 m2 (by omega) (by omega) sm.1
 by_cases hm3:m3<0
 ·exact ⟨-1,Zaa e2 (by rw[Zam hm2];exact Zaa e3 (by rw[Zaj hm3];rfl)),by omega,fun h=>absurd h (by decide)⟩
 ·exact ⟨m3,Zaa e2 (by rw[Zam hm2];exact Zaa e3 (by rw[Zam hm3];rfl)),by omega,fun h=>⟨by have:=k2 (by omega);omega,by have:=k3 h;omega⟩⟩
theorem ZtD (s:Tup ZaO) (n:Int) (h0:0≤n) (h1:n≤1048576) (hw:wfLs ZaO s): ∃m:Int,r5 (s,(n,()))=some ((m,()),())∧m≤n∧(0≤m→Zal s∧(Zb9 s).length≤1048576):=by
 obtain ⟨wi,wp,wm,wb,c1,c2,c3,c4,c5,c6,c7,c8,d1,d2,t,nm,ct,kn,ka,st,rd,q1,q2,q3,q4,q5,q6,q7,q8,qr,ql,qf,ws⟩:=hw
 obtain ⟨m1,e1,l1,k1⟩:=ZtA s.1 n h0 h1 wi
 unfold r5 m5
 by_cases hm1:m1<0
 ·exact ⟨-1,Zaa e1 (by rw[Zaj hm1];rfl),by omega,fun h=>absurd h (by decide)⟩
 obtain ⟨m2,e2,l2,k2⟩:=sz1 s.2.1 m1 (by omega) (by omega) wp.1
 by_cases hm2:m2<0
 ·exact ⟨-1,Zaa e1 (by rw[Zam hm1];exact Zaa e2 (by rw[Zaj hm2];rfl)),by omega,fun h=>absurd h (by decide)⟩
 obtain ⟨m3,e3,l3,k3⟩:=Zws (ZdG s) m2 (by omega) (by omega) ⟨wm,wb,trivial⟩
 by_cases hm3:m3<0
 ·exact ⟨-1,Zaa e1 (by rw[Zam hm1];exact Zaa e2 (by rw[Zam hm2];exact Zaa e3 (by rw[Zaj hm3];rfl))),by omega,fun h=>absurd h (by decide)⟩
 obtain ⟨m4,e4,l4,k4⟩:=sz1 (Zb9 s) m3 (by omega) (by omega) rd.1
 by_cases hm4:m4<0
 ·exact ⟨-1,Zaa e1 (by rw[Zam hm1];exact Zaa e2 (by rw[Zam hm2];exact Zaa e3 (by rw[Zam hm3];exact Zaa e4 (by rw[Zaj hm4];rfl)))),by omega,fun h=>absurd h (by decide)⟩
 obtain ⟨m5,e5,l5,k5⟩:=Zqd (ZbE s) m4 (by omega) (by omega) ⟨q1,q2,q3,q4,q5,q6,q7,q8,qr,ql,qf,trivial⟩
 by_cases hm5:m5<0
 ·exact ⟨-1,Zaa e1 (by rw[Zam hm1];exact Zaa e2 (by rw[Zam hm2];exact Zaa e3 (by rw[Zam hm3];exact Zaa e4 (by rw[Zam hm4];exact Zaa e5 (by rw[Zaj hm5];rfl))))),by omega,fun h=>absurd h (by decide)⟩
 obtain ⟨m6,e6,l6,k6⟩:=ZtC (Zcz s) m5 (by omega) (by omega) ws
 by_cases hm6:m6<0
 ·exact ⟨-1,Zaa e1 (by rw[Zam hm1];exact Zaa e2 (by rw[Zam hm2];exact Zaa e3 (by rw[Zam hm3];exact Zaa e4 (by rw[Zam hm4];exact Zaa e5 (by rw[Zam hm5];exact Zaa e6 (by rw[Zaj hm6];rfl)))))),by omega,fun h=>absurd h (by decide)⟩
 ·refine ⟨m6,Zaa e1 (by rw[Zam hm1];exact Zaa e2 (by rw[Zam hm2];exact Zaa e3 (by rw[Zam hm3];exact Zaa e4 (by rw[Zam hm4];exact Zaa e5 (by rw[Zam hm5];exact Zaa e6 (by rw[Zam hm6];rfl)))))),by omega,fun h=>⟨⟨k1 (by omega),?_,?_,?_,k5 (by omega),k6 h⟩,k4 (by omega)⟩⟩
  ·have:=k2 (by omega);show s.2.1.length≤_;omega
  ·have:=k3 (by omega);show (ZdG s).1.length≤_;omega
  ·have:=k4 (by omega);omega
def Zyq (a:Tup memL) (k:Int):Tup memL:=(nums k a.1.length,a.2)
def Zqz (a:Tup memL) (k:Int):Int:=k+(a.1.length:Int)
def Zyr (a:Tup ppuL) (k:Int):Tup ppuL:=(a.1,(a.2.1,(a.2.2.1,(a.2.2.2.1,(a.2.2.2.2.1,(a.2.2.2.2.2.1,(nums k a.2.2.2.2.2.2.1.length,(nums (k+(a.2.2.2.2.2.2.1.length:Int)) a.2.2.2.2.2.2.2.1.length,()))))))))
def Zgt (a:Tup ppuL) (k:Int):Int:=k+(a.2.2.2.2.2.2.1.length:Int)+(a.2.2.2.2.2.2.2.1.length:Int)
def ZwP (r:Tup ZcO) (k:Int):Tup ZcO:=(r.1,(recs k r.2.1.length,()))
def Zdz (r:Tup ZcO) (k:Int):Int:=k+3*(r.2.1.length:Int)
theorem ZpG (f:List (List Int)) (k:Int) (h:small f) (h0:0≤k) (h1:k≤2305843009213693952):r53 ((f,()),(k,()))=some ((k+(bulk f:Int),((ZhG k f,()),())),()):=by
 unfold r53 m53
 obtain ⟨a,_,b⟩:=h
 exact Zaa (Zkk f k h0 (by omega) (by omega)) rfl
theorem Zpn (f:List (List Int)) (k:Int) (h:small f) (h0:0≤k) (h1:k≤2305843009213693952):r58 ((ZhG k f,()),(k,()))=some ((k+(bulk f:Int),()),()):=by
 unfold r58 m58
 obtain ⟨a,_,b⟩:=h
 refine Zaa (Zka f k h0 (by omega) (by omega)) ?_
 rw[Zam (show¬k+(bulk f:Int)<0 by omega)]
 rfl
theorem Ztd (a:Tup memL) (k:Int) (h:a.1.length≤4398046511104) (h0:0≤k) (h1:k≤2305843009213693952):r55 (a,(k,()))=some ((Zqz a k,(Zyq a k,())),()):=by
 unfold r55 m55
 exact Zaa (ZcF a.1 k h0 (by omega)) rfl
theorem ZsY (a:Tup memL) (k:Int) (h:a.1.length≤4398046511104) (h0:0≤k) (h1:k≤2305843009213693952):r60 (Zyq a k,(k,()))=some ((Zqz a k,()),()):=by
 unfold r60 m60
 refine Zaa (ZcE a.1.length k h0 (by omega)) ?_
 rw[Zam (show¬k+(a.1.length:Int)<0 by omega)]
 rfl
theorem Zte (a:Tup ppuL) (k:Int) (h:Zer a) (h0:0≤k) (h1:k≤2305843009213693952):r130 (a,(k,()))=some ((Zgt a k,(Zyr a k,())),()):=by
 unfold r130 m130
 obtain ⟨a1,a2⟩:=h
 exact Zaa (ZcF a.2.2.2.2.2.2.1 k h0 (by omega)) (Zaa (ZcF a.2.2.2.2.2.2.2.1 (k+(a.2.2.2.2.2.2.1.length:Int)) (by omega) (by omega)) rfl)
theorem ZsZ (a:Tup ppuL) (k:Int) (h:Zer a) (h0:0≤k) (h1:k≤2305843009213693952):r133 (Zyr a k,(k,()))=some ((Zgt a k,()),()):=by
 unfold r133 m133
 obtain ⟨a1,a2⟩:=h
 refine Zaa (ZcE a.2.2.2.2.2.2.1.length k h0 (by omega)) ?_
 rw[Zam (show¬k+(a.2.2.2.2.2.2.1.length:Int)<0 by omega),cond_false]
 refine Zaa (ZcE a.2.2.2.2.2.2.2.1.length (k+(a.2.2.2.2.2.2.1.length:Int)) (by omega) (by omega)) ?_
 rw[Zam (show¬k+(a.2.2.2.2.2.2.1.length:Int)+(a.2.2.2.2.2.2.2.1.length:Int)<0 by omega)]
 rfl
theorem ZlX (r:Tup ZcO) (k:Int) (h:r.2.1.length≤4398046511104) (h0:0≤k) (h1:k≤2305843009213693952):r131 (r,(k,()))=some ((Zdz r k,(ZwP r k,())),()):=by
 unfold r131 m131
 exact Zaa (ZqX r.2.1 k h0 (by omega)) rfl
def Zn5 (w:Tup picL) (k:Int):Int:=Zdz (Zcb w) (Zgt (Zdh w) k)+(bulk w.2.2.2.2.2.2.2.2.2.2.1:Int)
def Ztf (w:Tup picL) (k:Int):Tup picL:=(w.1,(w.2.1,(w.2.2.1,(w.2.2.2.1,(w.2.2.2.2.1,(w.2.2.2.2.2.1,(nums k w.2.2.2.2.2.2.1.length,(nums (k+(w.2.2.2.2.2.2.1.length:Int)) w.2.2.2.2.2.2.2.1.length,(w.2.2.2.2.2.2.2.2.1,
 (recs (Zgt (Zdh w) k) w.2.2.2.2.2.2.2.2.2.1.length,(ZhG (Zdz (Zcb w) (Zgt (Zdh w) k)) w.2.2.2.2.2.2.2.2.2.2.1,())))))))))))
def ZsK (w:Tup sndL) (k:Int):Int:=Zdz (Zcc w) k+(w.2.2.2.2.2.2.2.2.2.1.length:Int)
def ZxG (w:Tup sndL) (k:Int):Tup sndL:=(w.1,(w.2.1,(w.2.2.1,(w.2.2.2.1,(w.2.2.2.2.1,(w.2.2.2.2.2.1,(w.2.2.2.2.2.2.1,(w.2.2.2.2.2.2.2.1,(recs k w.2.2.2.2.2.2.2.2.1.length,(nums (Zdz (Zcc w) k) w.2.2.2.2.2.2.2.2.2.1.length,()))))))))))
theorem ZqA {a:Tup ppuL} {k:Int} (h:Zer a):k≤Zgt a k∧Zgt a k≤k+8796093022208:=by
 obtain ⟨h1,h2⟩:=h
 unfold Zgt
 omega
theorem Zhj {r:Tup ZcO} {k:Int} (h:r.2.1.length≤4398046511104):k≤Zdz r k∧Zdz r k≤k+13194139533312:=by unfold Zdz;omega
theorem Zuc {w:Tup picL} {k:Int} (h:ZgR w):k≤Zn5 w k∧Zn5 w k≤k+26388279066624:=by
 obtain ⟨h1,h2,h3,_,h4⟩:=h
 have a:=ZqA (k:=k) h1
 have b:=Zhj (k:=Zgt (Zdh w) k) h2
 unfold Zn5
 omega
theorem Zxo {w:Tup sndL} {k:Int} (h:Zg2 w):k≤ZsK w k∧ZsK w k≤k+17592186044416:=by
 obtain ⟨h1,h2⟩:=h
 have b:=Zhj (k:=k) h1
 unfold ZsK
 omega
theorem ZmS (w:Tup picL) (k:Int) (h:ZgR w) (h0:0≤k) (h1:k≤1152921504606846976):r56 (w,(k,()))=some ((Zn5 w k,(Ztf w k,())),()):=by
 unfold r56 m56
 obtain ⟨a1,a2,a3,_,a4⟩:=h
 have a:=ZqA (k:=k) a1
 have b:=Zhj (k:=Zgt (Zdh w) k) a2
 exact Zaa (Zte (Zdh w) k a1 h0 (by omega)) (Zaa (ZlX (Zcb w) (Zgt (Zdh w) k) a2 (by omega) (by omega)) (Zaa (Zkk w.2.2.2.2.2.2.2.2.2.2.1 (Zdz (Zcb w) (Zgt (Zdh w) k)) (by omega) (by omega) (by omega)) rfl))
theorem ZpH (w:Tup sndL) (k:Int) (h:Zg2 w) (h0:0≤k) (h1:k≤1152921504606846976):r57 (w,(k,()))=some ((ZsK w k,(ZxG w k,())),()):=by
 unfold r57 m57
 obtain ⟨a1,a2⟩:=h
 have b:=Zhj (k:=k) a1
 exact Zaa (ZlX (Zcc w) k a1 (by omega) (by omega)) (Zaa (ZcF w.2.2.2.2.2.2.2.2.2.1 (Zdz (Zcc w) k) (by omega) (by omega)) rfl)
def Zei (s:Tup ZaO) (k:Int):Int:=ZsK (Zcz s) (Zn5 (ZbE s) (Zqz (ZdG s) (k+(bulk (Zez s):Int)+((Zcq s).length:Int))+((Zb9 s).length:Int)))
theorem Zo9 {s:Tup ZaO} (h:Zal s):1≤Zei s 1∧Zei s 1≤2305843009213693952:=by
 obtain ⟨⟨_,_,a1⟩,a2,a3,a4,a5,a6⟩:=h
 unfold Zei
 have e1:Zqz (ZdG s) (1+(bulk (Zez s):Int)+((Zcq s).length:Int))=1+(bulk (Zez s):Int)+((Zcq s).length:Int)+((ZdG s).1.length:Int):=rfl
 have b:=Zuc (k:=Zqz (ZdG s) (1+(bulk (Zez s):Int)+((Zcq s).length:Int))+((Zb9 s).length:Int)) a5
 have c:=Zxo (k:=Zn5 (ZbE s) (Zqz (ZdG s) (1+(bulk (Zez s):Int)+((Zcq s).length:Int))+((Zb9 s).length:Int))) a6
 omega
theorem ZiK (l:List Rc) (hl:(l.length:Int)≤1000000000000000): ∀(f i:Nat) (k:Int),i≤l.length→l.length-i<f→0≤k→k+3*((l.length:Int)-(i:Int))≤4611686018427387904→l.drop i=recs k (l.length-i)→
  n207_0 f (l,()) () (k,((i:Int),()))=some (Sum.inl (k+3*((l.length:Int)-(i:Int)),((l.length:Int),())),())
 |0,_,_,_,h,_,_,_=>absurd h (by omega)
 |f+1,i,k,hi,hf,h0,h1,hd=>by
  have e0:n207_0 (f+1) (l,()) () (k,((i:Int),()))=bif ltI (i:Int) (l.length:Int)then (bif leI 0 (i:Int)then (bif ltI (i:Int) (l.length:Int)then (bif neI (rdE .t l (i:Int)).1 k then some (Sum.inr (-1,()),())else bif leI 0 (i:Int)then (bif ltI (i:Int) (l.length:Int)then (bif neI (rdE .t l (i:Int)).2.1 (wI (k+1))then some (Sum.inr (-1,()),())
   else bif leI 0 (i:Int)then (bif ltI (i:Int) (l.length:Int)then (bif neI (rdE .t l (i:Int)).2.2 (wI (wI (k+1)+1))then some (Sum.inr (-1,()),())else n207_0 f (l,()) () (wI (wI (wI (k+1)+1)+1),(wI ((i:Int)+1),())))else none)else none)else none)else none)else none)else none)else some (Sum.inl (k,((i:Int),())),()):=rfl
  rw[e0]
  by_cases h:i<l.length
  ·rw[ZaQ h,show l.length-i=(l.length-(i+1))+1 by omega,recs]at hd
   simp only[List.cons.injEq]at hd
   rw[Zaj (by omega),Zay (by omega),ZaA .t l i h,hd.1,Zas (x:=k+1) (by omega) (by omega),Zas (x:=k+1+1) (by omega) (by omega),Zas (x:=k+1+1+1) (by omega) (by omega),ZaL (by omega)]
   rw[ZcN rfl,ZcN rfl,ZcN (show k+2=k+1+1 by omega)]
   have ih:=ZiK l hl f (i+1) (k+3) (by omega) (by omega) (by omega) (by omega) hd.2
   rw[show k+3+3*((l.length:Int)-((i+1:Nat):Int))=k+3*((l.length:Int)-(i:Int)) by omega,show k+3=k+1+1+1 by omega]at ih
   exact ih
  ·have:i=l.length:=by omega
   subst this
   rw[Zam (by omega),cond_false]
   simp
theorem ZqJ (n:Nat) (k:Int) (h0:0≤k) (hn:n≤4398046511104) (h:k≤2305843009213693952):r207 (recs k n,(k,()))=some ((k+3*(n:Int),()),()):=by
 unfold r207 m207 L207_0
 have:=ZiK (recs k n) (by rw[Zhx];omega) fuel 0 k (by omega) (by have:=Zaq;rw[Zhx];omega) h0 (by rw[Zhx];omega) (by simp[Zhx])
 simp only[Int.natCast_zero,Int.sub_zero,Zhx]at this
 exact Zaa this rfl
theorem Zly (r:Tup ZcO) (k:Int) (h:r.2.1.length≤4398046511104) (h0:0≤k) (h1:k≤2305843009213693952):r134 (ZwP r k,(k,()))=some ((Zdz r k,()),()):=by
 unfold r134 m134
 refine Zaa (ZqJ r.2.1.length k h0 h h1) ?_
 show (bif ltI (k+3*(r.2.1.length:Int)) 0 then _ else _)=_
 rw[Zam (by omega)]
 rfl
theorem ZmL (w:Tup picL) (k:Int) (h:ZgR w) (h0:0≤k) (h1:k≤1152921504606846976):r61 (Ztf w k,(k,()))=some ((Zn5 w k,()),()):=by
 unfold r61 m61
 obtain ⟨a1,a2,a3,a5,a4⟩:=h
 have a:=ZqA (k:=k) a1
 have b:=Zhj (k:=Zgt (Zdh w) k) a2
 refine Zaa (ZsZ (Zdh w) k a1 h0 (by omega)) ?_
 show (bif ltI (Zgt (Zdh w) k) 0 then _ else _)=_
 rw[Zam (by omega),cond_false]
 refine Zaa (Zly (Zcb w) (Zgt (Zdh w) k) a2 (by omega) (by omega)) ?_
 show (bif ltI (Zdz (Zcb w) (Zgt (Zdh w) k)) 0 then _ else _)=_
 rw[Zam (by omega),cond_false]
 refine Zaa (Zka w.2.2.2.2.2.2.2.2.2.2.1 (Zdz (Zcb w) (Zgt (Zdh w) k)) (by omega) (by omega) (by omega)) ?_
 show (bif ltI (Zdz (Zcb w) (Zgt (Zdh w) k)+(bulk w.2.2.2.2.2.2.2.2.2.2.1:Int)) 0 then _ else _)=_
 rw[Zam (by omega),cond_false]
 rfl
theorem Zpo (w:Tup sndL) (k:Int) (h:Zg2 w) (h0:0≤k) (h1:k≤1152921504606846976):r62 (ZxG w k,(k,()))=some ((ZsK w k,()),()):=by
 unfold r62 m62
 obtain ⟨a1,a2⟩:=h
 have b:=Zhj (k:=k) a1
 refine Zaa (Zly (Zcc w) k a1 h0 (by omega)) ?_
 show (bif ltI (Zdz (Zcc w) k) 0 then _ else _)=_
 rw[Zam (by omega),cond_false]
 refine Zaa (ZcE w.2.2.2.2.2.2.2.2.2.1.length (Zdz (Zcc w) k) (by omega) (by omega)) ?_
 show (bif ltI (Zdz (Zcc w) k+(w.2.2.2.2.2.2.2.2.2.1.length:Int)) 0 then _ else _)=_
 rw[Zam (by omega),cond_false]
 rfl
def s1K (s:Tup ZaO):Int:=1+(bulk (Zez s):Int)
def s2K (s:Tup ZaO):Int:=s1K s+((Zcq s).length:Int)
def s3K (s:Tup ZaO):Int:=Zqz (ZdG s) (s2K s)
def s4K (s:Tup ZaO):Int:=s3K s+((Zb9 s).length:Int)
def s5K (s:Tup ZaO):Int:=Zn5 (ZbE s) (s4K s)
def ZuA (s:Tup ZaO):Tup ZaO:=(ZhG 1 (Zez s),(nums (s1K s) (Zcq s).length,(nums (s2K s) (ZdG s).1.length,((ZdG s).2.1,((Zd4 s).1,((Zd4 s).2.1,((Zd4 s).2.2.1,((Zd4 s).2.2.2.1,((Zd4 s).2.2.2.2.1,((Zd4 s).2.2.2.2.2.1,((Zd4 s).2.2.2.2.2.2.1,((Zd4 s).2.2.2.2.2.2.2.1,
 ((Zp3 s).1,((Zp3 s).2.1,(spT s,(ZxS s,(Zva s,(Zvb s,(Zml s,(ZoE s,(nums (s3K s) (Zb9 s).length,
 ((ZbE s).1,((ZbE s).2.1,((ZbE s).2.2.1,((ZbE s).2.2.2.1,((ZbE s).2.2.2.2.1,((ZbE s).2.2.2.2.2.1,((Ztf (ZbE s) (s4K s)).2.2.2.2.2.2.1,((Ztf (ZbE s) (s4K s)).2.2.2.2.2.2.2.1,((ZbE s).2.2.2.2.2.2.2.2.1,((Ztf (ZbE s) (s4K s)).2.2.2.2.2.2.2.2.2.1,((Ztf (ZbE s) (s4K s)).2.2.2.2.2.2.2.2.2.2.1,ZxG (Zcz s) (s5K s)))))))))))))))))))))))))))))))))
structure SpB (s:Tup ZaO):Prop where
 b1:1≤s1K s∧s1K s≤4398046511105
 b2:1≤s2K s∧s2K s≤8796093022209
 b3:1≤s3K s∧s3K s≤13194139533313
 b4:1≤s4K s∧s4K s≤17592186044417
 b5:1≤s5K s∧s5K s≤43980465111041
 b6:1≤Zei s 1∧Zei s 1≤2305843009213693952
theorem spB {s:Tup ZaO} (h:Zal s):SpB s:=by
 have b6:=Zo9 h
 obtain ⟨⟨_,_,a1⟩,a2,a3,a4,a5,a6⟩:=h
 have e3:s3K s=s2K s+((ZdG s).1.length:Int):=rfl
 have e5:=Zuc (k:=s4K s) a5
 have e6:Zn5 (ZbE s) (s4K s)=s5K s:=rfl
 have e1:s1K s=1+(bulk (Zez s):Int):=rfl
 have e2:s2K s=s1K s+((Zcq s).length:Int):=rfl
 have e4:s4K s=s3K s+((Zb9 s).length:Int):=rfl
 exact ⟨by omega,by omega,by omega,by omega,by omega,b6⟩
theorem ZlY (s:Tup ZaO) (h:Zal s):r10 (s,((1:Int),()))=some ((Zei s 1,(ZuA s,())),()):=by
 obtain ⟨b1,b2,b3,b4,b5,b6⟩:=spB h
 unfold r10 m10
 obtain ⟨a1,a2,a3,a4,a5,a6⟩:=h
 exact Zaa (ZpG (Zez s) 1 a1 (by omega) (by omega)) (Zaa (ZcF (Zcq s) (s1K s) (by omega) (by omega)) (Zaa (Ztd (ZdG s) (s2K s) a3 (by omega) (by omega)) (Zaa (ZcF (Zb9 s) (s3K s) (by omega) (by omega)) (Zaa (ZmS (ZbE s) (s4K s) a5 (by omega) (by omega)) (Zaa (ZpH (Zcz s) (s5K s) a6 (by omega) (by omega)) rfl)))))
theorem Zkb (s:Tup ZaO) (h:Zal s):r11 (ZuA s,((1:Int),()))=some ((Zei s 1,()),()):=by
 obtain ⟨b1,b2,b3,b4,b5,b6⟩:=spB h
 unfold r11 m11
 obtain ⟨a1,a2,a3,a4,a5,a6⟩:=h
 refine Zaa (Zpn (Zez s) 1 a1 (by omega) (by omega)) ?_
 show (bif ltI (s1K s) 0 then _ else _)=_
 rw[Zam (by omega),cond_false]
 refine Zaa (ZcE (Zcq s).length (s1K s) (by omega) (by omega)) ?_
 show (bif ltI (s2K s) 0 then _ else _)=_
 rw[Zam (by omega),cond_false]
 refine Zaa (ZsY (ZdG s) (s2K s) a3 (by omega) (by omega)) ?_
 show (bif ltI (s3K s) 0 then _ else _)=_
 rw[Zam (by omega),cond_false]
 refine Zaa (ZcE (Zb9 s).length (s3K s) (by omega) (by omega)) ?_
 show (bif ltI (s4K s) 0 then _ else _)=_
 rw[Zam (by omega),cond_false]
 refine Zaa (ZmL (ZbE s) (s4K s) a5 (by omega) (by omega)) ?_
 show (bif ltI (s5K s) 0 then _ else _)=_
 rw[Zam (by omega),cond_false]
 refine Zaa (Zpo (Zcz s) (s5K s) a6 (by omega) (by omega)) ?_
 show (bif ltI (Zei s 1) 0 then _ else _)=_
 rw[Zam (by omega),cond_false]
 rfl

end Go.Proofs.YtleidaafbhojfaaGreatDoor.Plain
