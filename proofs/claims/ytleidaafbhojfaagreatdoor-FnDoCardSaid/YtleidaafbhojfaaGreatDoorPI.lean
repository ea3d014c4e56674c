/- Plain laws of the printed functions: Draw, Draw2, LawS. No condition beyond those that each lemma states. -/
import Derived.Test.YtleidaafbhojfaaGreatDoorPH
set_option linter.unusedVariables false
set_option linter.unusedSimpArgs false
namespace Go.Proofs.YtleidaafbhojfaaGreatDoor.Plain
open Go Go.Tev
def Ans {R:Type} (x:Option R) (P:R→Prop):Prop:= ∃r,x=some r∧P r
theorem Ans.bind {A B:Type} {x:Option A} {P:A→Prop} {f:A→Option B} {Q:B→Prop} (h:Ans x P) (k: ∀a,P a→Ans (f a) Q):Ans (x.bind f) Q:=by
 obtain ⟨a,rfl,ha⟩:=h
 exact k a ha
theorem Ans.ret {R:Type} {r:R} {P:R→Prop} (h:P r):Ans (some r) P:=⟨r,rfl,h⟩
theorem Ans.mono {R:Type} {x:Option R} {P Q:R→Prop} (h:Ans x P) (k: ∀r,P r→Q r):Ans x Q:=by
 obtain ⟨a,ha,hp⟩:=h
 exact ⟨a,ha,k a hp⟩
theorem Ans.of {R:Type} {x:Option R} {r:R} (h:x=some r):Ans x fun a=>a=r:=⟨r,h,rfl⟩
abbrev Ji:=Int×Int×Unit
def Cur (b:List Int) (t:Ji):Prop:=(0≤t.1∧t.1≤(b.length:Int))∧b.length≤1048576
def Dr {V:Type} (b:List Int) (P:V→Prop) (r:(V×Unit)×((List Int×Ji)×Unit)):Prop:= ∃v t,r=((v,()),((b,t),()))∧Cur b t∧P v
theorem Zhc (b:List Int) (hb:b.length≤1048576): ∀(k:Nat) (h i:Int),0≤i→i≤(b.length:Int)→(b.length:Int)-i<k→Ans (n63_0 k (b,()) () (h,(i,()))) fun r=> ∃h' i':Int,r=(Sum.inl (h',(i',())),())
 |0,_,_,_,h1,h2=>absurd h2 (by omega)
 |k+1,h,i,h0,h1,h2=>by
  show Ans (bif ltI i (Zb b)then _ else some (Sum.inl (h,(i,())),())) _
  by_cases hi:i< (b.length:Int)
  ·by_cases h4:i<4000
   ·simp only[Zl,Zf hi,Zf h4,Zo h0,cond_true]
    rw[Zj (x:=i+1) (by omega) (by omega)]
    exact Zhc b hb k _ _ (by omega) (by omega) (by omega)
   ·simp only[Zl,Zf hi,Zp h4,cond_true,cond_false]
    exact .ret ⟨_,_,rfl⟩
  ·rw[Zl,Zp hi,cond_false]
   exact .ret ⟨_,_,rfl⟩
theorem Zpm (b:List Int) (hb:b.length≤1048576):Ans (r63 (b,())) fun r=> ∃t:Ji,r=(((b,t),()),())∧Cur b t:=by
 unfold r63 m63
 refine (Zhc b hb fuel _ 0 (by omega) (by omega) (by have:=ZQ;omega)).bind ?_
 rintro _ ⟨h',i',rfl⟩
 exact .ret ⟨_,rfl,⟨Int.le_refl _,by show (0:Int)≤_;omega⟩,hb⟩
theorem ZbZ {b:List Int} {t:Ji} (h:Cur b t):Ans (r210 ((b,t),())) (Dr b fun v:Int=>0≤v∧v≤255):=by
 obtain ⟨i,hh,_⟩:=t
 obtain ⟨⟨h0,h1⟩,hb⟩:=h
 have h0:0≤i:=h0
 have h1:i≤(b.length:Int):=h1
 unfold r210 m210
 dsimp only
 by_cases hi:i< (b.length:Int)
 ·simp only[Zl,Zf hi,Zo h0,cond_true]
  refine .ret ⟨_,_,rfl,⟨?_,hb⟩,by rw[Kn];omega⟩
  show 0≤wI (i+1)∧wI (i+1)≤_
  rw[Zj (by omega) (by omega)]
  omega
 ·simp only[Zl,Zp hi,cond_false]
  exact .ret ⟨_,_,rfl,⟨⟨h0,h1⟩,hb⟩,by rw[Kn];omega⟩
theorem ZoG {a n:Int} (ha:0≤a) (hn:0<n):0≤Int.tmod a n∧Int.tmod a n<n:=by
 rw[Qt ha]
 exact ⟨Int.emod_nonneg _ (by omega),Int.emod_lt_of_pos _ hn⟩
theorem J6 {b:List Int} {t:Ji} (h:Cur b t) (n:Int):Ans (r137 ((b,t),(n,()))) (Dr b fun v:Int=>(0<n→0≤v∧v<n)∧(n≤0→v=0)):=by
 unfold r137 m137
 dsimp only
 by_cases h0:n≤0
 ·rw[Zo h0,cond_true]
  exact .ret ⟨_,_,rfl,h,fun h1=>absurd h0 (by omega),fun _=>rfl⟩
 rw[YI h0,cond_false]
 by_cases h1:n≤256
 ·rw[Zo h1,cond_true]
  refine (ZbZ h).bind ?_
  rintro _ ⟨v,t1,rfl,hc,hv⟩
  rw[Jy (by omega),cond_true]
  exact .ret ⟨_,_,rfl,hc,fun _=>ZoG hv.1 (by omega),fun h2=>absurd h2 h0⟩
 ·rw[YI h1,cond_false]
  refine (ZbZ h).bind ?_
  rintro _ ⟨x,t1,rfl,hc,hx⟩
  refine (ZbZ hc).bind ?_
  rintro _ ⟨y,t2,rfl,hc,hy⟩
  refine (ZbZ hc).bind ?_
  rintro _ ⟨z,t3,rfl,hc,hz⟩
  refine (ZbZ hc).bind ?_
  rintro _ ⟨w,t4,rfl,hc,hw⟩
  dsimp only
  rw[Jy (by omega),cond_true]
  have e:wI (wI (wI (wI (x*16777216)+wI (y*65536))+wI (z*256))+w)=x*16777216+y*65536+z*256+w:=by
   rw[Zj (x:=x*16777216) (by omega) (by omega),Zj (x:=y*65536) (by omega) (by omega),Zj (x:=z*256) (by omega) (by omega),Zj (x:=x*16777216+y*65536) (by omega) (by omega),
    Zj (x:=x*16777216+y*65536+z*256) (by omega) (by omega),Zj (by omega) (by omega)]
  rw[e]
  exact .ret ⟨_,_,rfl,hc,fun _=>ZoG (by omega) (by omega),fun h2=>absurd h2 h0⟩
theorem Zjb {b:List Int} {t:Ji} (h:Cur b t) (n:Int):Ans (r276 ((b,t),(n,()))) (Dr b fun _:Bool=>True):=by
 unfold r276 m276
 refine (J6 h n).bind ?_
 rintro _ ⟨v,t1,rfl,hc,hv⟩
 exact .ret ⟨_,_,rfl,hc,trivial⟩
theorem Uv {b:List Int} {t:Ji} (h:Cur b t) (l:List Int) (hl:0<l.length):Ans (r138 ((b,t),(l,()))) (Dr b fun v:Int=>v∈l):=by
 unfold r138 m138
 refine (J6 h (Zb l)).bind ?_
 rintro _ ⟨v,t1,rfl,hc,hv,_⟩
 rw[Zl]at hv
 obtain ⟨v0,v1⟩:=hv (by omega)
 dsimp only
 rw[Zo v0,cond_true,Zl,Zf v1,cond_true]
 exact .ret ⟨_,_,rfl,hc,Xc (e:= .i) v0 v1⟩
theorem Zjc {b:List Int} {t:Ji} (h:Cur b t) (l:List ByteArray) (hl:0<l.length):Ans (r140 ((b,t),(l,()))) (Dr b fun v:ByteArray=>v∈l):=by
 unfold r140 m140
 refine (J6 h (Zb l)).bind ?_
 rintro _ ⟨v,t1,rfl,hc,hv,_⟩
 rw[Zl]at hv
 obtain ⟨v0,v1⟩:=hv (by omega)
 dsimp only
 rw[Zo v0,cond_true,Zl,Zf v1,cond_true]
 exact .ret ⟨_,_,rfl,hc,Xc (e:= .s) v0 v1⟩
theorem ZaP {b:List Int} {t:Ji} (h:Cur b t):Ans (r212 ((b,t),())) (Dr b fun _:Int=>True):=by
 unfold r212 m212
 refine (Zjb h 9).bind ?_
 rintro _ ⟨v,t1,rfl,hc,_⟩
 dsimp only
 cases v
 ·rw[cond_false]
  refine (J6 hc 256).bind ?_
  rintro _ ⟨v,t2,rfl,hc,_⟩
  exact .ret ⟨_,_,rfl,hc,trivial⟩
 ·rw[cond_true]
  refine (Uv hc _ (by decide)).bind ?_
  rintro _ ⟨v,t2,rfl,hc,_⟩
  exact .ret ⟨_,_,rfl,hc,trivial⟩
theorem ZgI {b:List Int} {t:Ji} (h:Cur b t):Ans (r211 ((b,t),())) (Dr b fun _:Tup Yr=>True):=by
 unfold r211 m211
 refine (J6 h 256).bind ?_
 rintro _ ⟨a,t1,rfl,hc,_⟩
 refine (J6 hc 256).bind ?_
 rintro _ ⟨x,t2,rfl,hc,_⟩
 refine (Uv hc _ (by decide)).bind ?_
 rintro _ ⟨s,t3,rfl,hc,_⟩
 refine (Uv hc _ (by decide)).bind ?_
 rintro _ ⟨pc,t4,rfl,hc,_⟩
 refine (J6 hc 256).bind ?_
 rintro _ ⟨f,t5,rfl,hc,_⟩
 refine (Ans.of (ZbL ⟨a,x,s,pc,false,false,false,false⟩ f)).bind ?_
 rintro _ rfl
 exact .ret ⟨_,_,rfl,hc,trivial⟩
theorem ZnF {b:List Int} {t:Ji} (h:Cur b t):Ans (r139 ((b,t),())) (Dr b fun _:Tup Yr=>True):=by
 unfold r139 m139
 refine (ZgI h).bind ?_
 rintro _ ⟨a,t1,rfl,hc,_⟩
 refine (J6 hc 25).bind ?_
 rintro _ ⟨x,t2,rfl,hc,_⟩
 dsimp only
 have key: ∀{A:Type} (f:Int→Tup Yr),Ans (r212 ((b,t2),())) (Dr b fun _:Int=>True):=fun _=>ZaP hc
 cases eqI x 0
 ·rw[cond_false]
  cases eqI x 1
  ·rw[cond_false]
   cases eqI x 2
   ·rw[cond_false]
    cases eqI x 3
    ·rw[cond_false]
     exact .ret ⟨_,_,rfl,hc,trivial⟩
    ·rw[cond_true]
     refine (Uv hc _ (by decide)).bind ?_
     rintro _ ⟨v,t3,rfl,hc,_⟩
     exact .ret ⟨_,_,rfl,hc,trivial⟩
   ·rw[cond_true]
    refine (ZaP hc).bind ?_
    rintro _ ⟨v,t3,rfl,hc,_⟩
    exact .ret ⟨_,_,rfl,hc,trivial⟩
  ·rw[cond_true]
   refine (ZaP hc).bind ?_
   rintro _ ⟨v,t3,rfl,hc,_⟩
   exact .ret ⟨_,_,rfl,hc,trivial⟩
 ·rw[cond_true]
  refine (ZaP hc).bind ?_
  rintro _ ⟨v,t3,rfl,hc,_⟩
  exact .ret ⟨_,_,rfl,hc,trivial⟩
theorem Zs2 (x:Int):Kv (wI x):=by
 rw[Zr3]
 unfold Kv
 omega
theorem Zdk: ∀(j k:Nat) (n:Int) (s:ByteArray),n<10^j→n≤9223372036854775807→j<k→s.size+j≤100→Ans (n30_0 k () () (n,(s,()))) fun r=> ∃(n':Int) (s':ByteArray),r=(Sum.inl (n',(s',())),())∧s'.size≤100
 |_,0,_,_,_,_,h,_=>absurd h (by omega)
 |j,k+1,n,s,hn,hm,hk,hs=>by
  show Ans (bif ltI 0 n then _ else some (Sum.inl (n,(s,())),())) _
  by_cases h0:0<n
  ·rw[Zf h0,cond_true]
   have hj:0<j:=by
    rcases Nat.eq_zero_or_pos j with e|e
    ·subst e;simp at hn;omega
    ·exact e
   obtain ⟨j,rfl⟩: ∃i,j=i+1:=⟨j-1,by omega⟩
   rw[ZO (show (Xv [wB (wI (48+Int.tmod n 10))]).size+s.size≤4611686018427387904 by show 1+s.size≤_;omega),cond_true]
   have e:wI (Int.tdiv n 10)=n/10:=by rw[W9 (by omega),Zj (by omega) (by omega)]
   rw[e]
   refine Zdk j k (n/10) _ ?_ (by omega) (by omega) ?_
   ·rw[Int.pow_succ]at hn
    omega
   ·rw[ByteArray.size_append]
    show 1+s.size+j≤100
    omega
  ·rw[Zp h0,cond_false]
   exact .ret ⟨_,_,rfl,by omega⟩
theorem Zjd (n:Int) (hn:Kv n):Ans (r30 (n,())) fun r=> ∃s:ByteArray,r=((s,()),())∧s.size≤100:=by
 unfold r30 m30
 dsimp only
 cases eqI n 0
 ·rw[cond_false]
  refine (Zdk 20 fuel n _ (by have:=hn.2;omega) hn.2 (by have:=ZQ;omega) (by decide)).bind ?_
  rintro _ ⟨n',s',rfl,hs⟩
  exact .ret ⟨_,rfl,hs⟩
 ·rw[cond_true]
  exact .ret ⟨_,rfl,by decide⟩
theorem Zhd (s:ByteArray) (hs:s.size≤1000): ∀(k:Nat) (x i:Int),0≤i→i≤(s.size:Int)→(s.size:Int)-i<k→Kv x→Ans (n104_0 r30 k (s,()) () (x,(i,()))) fun r=>(∃v:Int,r=(Sum.inr (v,()),()))∨ ∃x' i':Int,r=(Sum.inl (x',(i',())),())∧Kv x'
 |0,_,_,_,h1,h2,_=>absurd h2 (by omega)
 |k+1,x,i,h0,h1,h2,hx=>by
  show Ans (bif ltI i (s.size:Int)then _ else some (Sum.inl (x,(i,())),())) _
  by_cases hi:i< (s.size:Int)
  ·simp only[Zf hi,Zo h0,cond_true]
   cases ltI (bt s i) 48
   ·rw[cond_false]
    cases ltI 57 (bt s i)
    ·rw[cond_false,Zj (x:=i+1) (by omega) (by omega)]
     exact Zhd s hs k _ _ (by omega) (by omega) (by omega) (Zs2 _)
    ·rw[cond_true]
     exact .ret (.inl ⟨_,rfl⟩)
   ·rw[cond_true]
    exact .ret (.inl ⟨_,rfl⟩)
  ·rw[Zp hi,cond_false]
   exact .ret (.inr ⟨_,_,rfl,hx⟩)
theorem ZnE (s:ByteArray):Ans (r104 (s,())) fun r=> ∃v:Int,r=((v,()),()):=by
 unfold r104 m104
 dsimp only
 cases (s.toList==(bz []).toList)
 ·rw[cond_false]
  by_cases h5:5< (s.size:Int)
  ·rw[Zf h5,cond_true]
   exact .ret ⟨_,rfl⟩
  ·rw[Zp h5,cond_false]
   refine (Zhd s (by omega) fuel 0 0 (by omega) (by omega) (by have:=ZQ;omega) (by unfold Kv;omega)).bind ?_
   rintro _ (⟨v,rfl⟩| ⟨x,i,rfl,hx⟩)
   ·exact .ret ⟨_,rfl⟩
   ·refine (Zjd x hx).bind ?_
    rintro _ ⟨d,rfl,_⟩
    dsimp only
    cases (!(d.toList==s.toList))
    ·rw[cond_false];exact .ret ⟨_,rfl⟩
    ·rw[cond_true];exact .ret ⟨_,rfl⟩
 ·rw[cond_true]
  exact .ret ⟨_,rfl⟩
theorem ZfK (s:ByteArray) (hs:s.size≤1000000): ∀(k:Nat) (i:Int),0≤i→i≤(s.size:Int)→(s.size:Int)-i<k→Ans (n27_0 r104 k (s,()) () (i,())) fun r=>(∃i':Int,r=(Sum.inl (i',()),()))∨ ∃(w:ByteArray) (n:Int) (o:Bool),r=(Sum.inr (w,(n,(o,()))),())
 |0,_,_,h1,h2=>absurd h2 (by omega)
 |k+1,i,h0,h1,h2=>by
  show Ans (bif ltI i (s.size:Int)then _ else some (Sum.inl (i,()),())) _
  by_cases hi:i< (s.size:Int)
  ·simp only[Zf hi,Zo h0,cond_true]
   rw[Zj (x:=i+1) (by omega) (by omega)]
   cases eqI (bt s i) 32
   ·rw[cond_false]
    exact ZfK s hs k _ (by omega) (by omega) (by omega)
   ·rw[cond_true,Zo (by omega),cond_true,Zo (by omega),cond_true]
    refine (ZnE _).bind ?_
    rintro _ ⟨v,rfl⟩
    rw[Zo (show i≤(s.size:Int) by omega),cond_true]
    exact .ret (.inr ⟨_,_,_,rfl⟩)
  ·rw[Zp hi,cond_false]
   exact .ret (.inl ⟨_,rfl⟩)
theorem Zme (s:ByteArray) (hs:s.size≤1000000):Ans (r27 (s,())) fun r=> ∃(w:ByteArray) (n:Int) (o:Bool),r=((w,(n,(o,()))),()):=by
 unfold r27 m27
 refine (ZfK s hs fuel 0 (by omega) (by omega) (by have:=ZQ;omega)).bind ?_
 rintro _ (⟨v,rfl⟩| ⟨w,n,o,rfl⟩)
 ·exact .ret ⟨_,_,_,rfl⟩
 ·exact .ret ⟨_,_,_,rfl⟩
theorem Zjs (s:ByteArray) (l:List ByteArray) (hl:l.length≤30): ∀(k:Nat) (i:Int),0≤i→i≤(l.length:Int)→(l.length:Int)-i<k→Ans (n370_0 r380 k (s,(l,())) () (i,())) fun r=>(∃i':Int,r=(Sum.inl (i',()),()))∨ ∃v:Int,r=(Sum.inr (v,()),())∧0≤v∧v≤29
 |0,_,_,h1,h2=>absurd h2 (by omega)
 |k+1,i,h0,h1,h2=>by
  show Ans (bif ltI i (Zb l)then _ else some (Sum.inl (i,()),())) _
  by_cases hi:i< (l.length:Int)
  ·simp only[Zl,Zf hi,Zo h0,cond_true]
   cases ((rdE .s l i).toList==s.toList)
   ·rw[cond_false,Zj (x:=i+1) (by omega) (by omega)]
    exact Zjs s l hl k _ (by omega) (by omega) (by omega)
   ·rw[cond_true]
    exact .ret (.inr ⟨_,rfl,h0,by omega⟩)
  ·rw[Zl,Zp hi,cond_false]
   exact .ret (.inl ⟨_,rfl⟩)
theorem ZpA (s:ByteArray):Ans (r370 (s,())) fun r=> ∃v:Int,r=((v,()),())∧(v= -1∨0≤v∧v≤29):=by
 unfold r370 m370
 have hn:Ans (r380 ()) fun r=> ∃l:List ByteArray,r=((l,()),())∧l.length=30:=⟨_,rfl,_,rfl,rfl⟩
 refine hn.bind ?_
 rintro _ ⟨l,rfl,hl⟩
 refine (Zjs s l (by omega) fuel 0 (by omega) (by omega) (by have:=ZQ;omega)).bind ?_
 rintro _ (⟨v,rfl⟩| ⟨v,rfl,hv⟩)
 ·exact .ret ⟨_,rfl, .inl rfl⟩
 ·exact .ret ⟨_,rfl, .inr hv⟩
theorem WC:QM []:=fun n hn=>by cases hn
theorem Uh {a:Int} {l:List Int} (ha:0≤a∧a≤255) (h:QM l):QM (a::l):=fun n hn=>by
 cases hn with
 |head=>exact ha
 |tail _ hn=>exact h n hn
theorem ZbN {l:List Int} (h:QM l) (i:Nat) {v:Int} (hv:0≤v∧v≤255):QM (l.set i v):=fun n hn=>by
 rcases List.mem_or_eq_of_mem_set hn with h1|h1
 ·exact h n h1
 ·rw[h1];exact hv
theorem Zki (s:ByteArray) (hs:s.size≤1000000):Ans (r335 (s,())) fun r=> ∃(l:List Int) (n:Int) (o:Bool),r=((l,(n,(o,()))),())∧QM l∧l.length≤3:=by
 unfold r335 m335
 refine (Zme s hs).bind ?_
 rintro _ ⟨w,n,o,rfl⟩
 dsimp only
 have none': ∀(n:Int) (o:Bool),Ans (some ((([]:List Int),(n,(o,()))),())) fun r=> ∃(l:List Int) (n:Int) (o:Bool),r=((l,(n,(o,()))),())∧QM l∧l.length≤3:=fun _ _=> .ret ⟨_,_,_,rfl,WC,by decide⟩
 cases o
 ·rw[Bool.not_false,cond_true];exact none' _ _
 rw[Bool.not_true,cond_false]
 have place: ∀q:Bool,Ans ((r28 (n,((0:Int),((255:Int),())))).bind fun r1=>bif !r1.1.1 then some (([],(-(1:Int),(false,()))),())else bif q then some (([],(n,(true,()))),())else some ((n::[],(-(1:Int),(true,()))),())) fun r=> ∃(l:List Int) (n:Int) (o:Bool),r=((l,(n,(o,()))),())∧QM l∧l.length≤3:=fun q=>by
  rw[JT,Option.bind_some]
  dsimp only
  cases hr:inR 0 255 n
  ·rw[Bool.not_false,cond_true];exact none' _ _
  ·rw[Bool.not_true,cond_false]
   cases q
   ·rw[cond_false];exact .ret ⟨_,_,_,rfl,Uh (JS.1 hr) WC,by simp⟩
   ·rw[cond_true];exact none' _ _
 cases (w.toList==(bz [97,116]).toList)
 ·rw[cond_false]
  cases (w.toList==(bz [98,121,116,101]).toList)
  ·rw[cond_false]
   refine (ZpA w).bind ?_
   rintro _ ⟨op,rfl,hop⟩
   dsimp only
   by_cases h0:op<0
   ·rw[Zf h0,cond_true];exact none' _ _
   ·rw[Zp h0,cond_false]
    have hop:0≤op∧op≤255:=by omega
    refine (Ans.of (Zb7 (op,()))).bind ?_
    rintro _ rfl
    dsimp only
    cases eqI (Q1 op) 1
    ·rw[cond_false]
     cases eqI (Q1 op) 2
     ·rw[cond_false]
      refine (Ans.of (Ja (n,()))).bind ?_
      rintro _ rfl
      refine (Ans.of (Ja (_,()))).bind ?_
      rintro _ rfl
      refine (Ans.of (JT _)).bind ?_
      rintro _ rfl
      exact .ret ⟨_,_,_,rfl,Uh hop (Uh (mod256 _) (Uh (mod256 _) WC)),by simp⟩
     ·rw[cond_true]
      refine (Ans.of (Ja (n,()))).bind ?_
      rintro _ rfl
      refine (Ans.of (JT _)).bind ?_
      rintro _ rfl
      exact .ret ⟨_,_,_,rfl,Uh hop (Uh (mod256 _) WC),by simp⟩
    ·rw[cond_true]
     exact .ret ⟨_,_,_,rfl,Uh hop WC,by simp⟩
  ·rw[cond_true]
   exact place _
 ·rw[cond_true]
  exact place _
theorem ZmT (l:List Int) (hl:QM l) (hl3:l.length≤3): ∀(k:Nat) (a i:Int) (out:List Int),0≤i→i≤(l.length:Int)→(l.length:Int)-i<k→out.length=256→QM out→
  Ans (n277_0 r230 r335 k (l,()) () (a,(i,(out,())))) fun r=> ∃(a' i':Int) (out':List Int),r=(Sum.inl (a',(i',(out',()))),())∧out'.length=256∧QM out'
 |0,_,_,_,_,h1,h2,_,_=>absurd h2 (by omega)
 |k+1,a,i,out,h0,h1,h2,ho,hb=>by
  show Ans (bif ltI i (Zb l)then _ else some (Sum.inl (a,(i,(out,()))),())) _
  by_cases hi:i< (l.length:Int)
  ·rw[Zl,Zf hi,cond_true]
   refine (Ans.of (Ja (a,()))).bind ?_
   rintro _ rfl
   have hm:=mod256 a
   dsimp only
   simp only[Zo h0,cond_true,Zo hm.1]
   rw[Zl,ho,Zf (by omega),cond_true,Zj (x:=i+1) (by omega) (by omega)]
   exact ZmT l hl hl3 k _ _ _ (by omega) (by omega) (by omega) (by rw[List.length_set];exact ho) (ZbN hb _ (hl _ (Xc (e:= .i) h0 hi)))
  ·rw[Zl,Zp hi,cond_false]
   exact .ret ⟨_,_,_,rfl,ho,hb⟩
theorem ZeN (s:ByteArray) (hs:s.size≤3000): ∀(k:Nat) (a f m i:Int) (out:List Int),0≤f→f≤i→i≤(s.size:Int)+1→(s.size:Int)+1-i<k→out.length=256→QM out→
  Ans (n277_1 r230 r335 L277_0 k (s,()) () (a,(f,(m,(i,(out,())))))) fun r=>(∃(a' f' m' i':Int) (out':List Int),r=(Sum.inl (a',(f',(m',(i',(out',()))))),())∧out'.length=256∧QM out')∨ ∃c:Int,r=(Sum.inr ([],(c,())),())
 |0,_,_,_,_,_,_,_,h1,h2,_,_=>absurd h2 (by omega)
 |k+1,a,f,m,i,out,h0,hf,h1,h2,ho,hb=>by
  unfold n277_1 w277_1
  dsimp only
  by_cases hi:i≤(s.size:Int)
  ·have i0:0≤i:=by omega
   have e1:wI (i+1)=i+1:=Zj (by omega) (by omega)
   simp only[Zo hi,Zo i0,Zo h0,Zo hf,cond_true,e1]
   have skip:Ans (n277_1 r230 r335 L277_0 k (s,()) () (a,(f,(m,(i+1,(out,())))))) fun r=>(∃(a' f' m' i':Int) (out':List Int),r=(Sum.inl (a',(f',(m',(i',(out',()))))),())∧out'.length=256∧QM out')∨ ∃c:Int,r=(Sum.inr ([],(c,())),()):=
    ZeN s hs k a f m (i+1) out h0 (by omega) (by omega) (by omega) ho hb
   have put: ∀(a:Int) (l:List Int),QM l→l.length≤3→Ans ((L277_0 (l,()) () (a,((0:Int),(out,())))).bind fun r1=>Zu r1.1 (fun r2=>n277_1 r230 r335 L277_0 k (s,()) () (r2.1,(i+1,(wI (m+1),(i+1,r2.2.2))))) fun r2=>none) fun r=>(∃(a' f' m' i':Int) (out':List Int),r=(Sum.inl (a',(f',(m',(i',(out',()))))),())∧out'.length=256∧QM out')∨ ∃c:Int,r=(Sum.inr ([],(c,())),()):=fun a l hl hl3=>by
    refine (ZmT l hl hl3 fuel a 0 out (by omega) (by omega) (by have:=ZQ;omega) ho hb).bind ?_
    rintro _ ⟨a',i',out',rfl,ho',hb'⟩
    exact ZeN s hs k a' (i+1) (wI (m+1)) (i+1) out' (by omega) (by omega) (by omega) (by omega) ho' hb'
   have line:Ans (bif ((s.extract f.toNat i.toNat).toList==(bz []).toList)then n277_1 r230 r335 L277_0 k (s,()) () (a,(i+1,(wI (m+1),(i+1,(out,())))))else (r335 (s.extract f.toNat i.toNat,())).bind fun r0=>bif !r0.1.2.2.1 then some (Sum.inr ([],(wI (m+1),())),())else bif leI 0 r0.1.2.1 then (L277_0 (r0.1.1,()) () (r0.1.2.1,((0:Int),(out,())))).bind fun r1=>Zu r1.1 (fun r2=>n277_1 r230 r335 L277_0 k (s,()) () (r2.1,(i+1,(wI (m+1),(i+1,r2.2.2))))) fun r2=>none
     else (L277_0 (r0.1.1,()) () (a,((0:Int),(out,())))).bind fun r1=>Zu r1.1 (fun r2=>n277_1 r230 r335 L277_0 k (s,()) () (r2.1,(i+1,(wI (m+1),(i+1,r2.2.2))))) fun r2=>none) fun r=>(∃(a' f' m' i':Int) (out':List Int),r=(Sum.inl (a',(f',(m',(i',(out',()))))),())∧out'.length=256∧QM out')∨ ∃c:Int,r=(Sum.inr ([],(c,())),()):=by
    cases ((s.extract f.toNat i.toNat).toList==(bz []).toList)
    ·rw[cond_false]
     refine (Zki _ (by rw[ByteArray.size_extract];omega)).bind ?_
     rintro _ ⟨l,n,o,rfl,hl,hl3⟩
     dsimp only
     cases o
     ·rw[Bool.not_false,cond_true];exact .ret (.inr ⟨_,rfl⟩)
     ·rw[Bool.not_true,cond_false]
      cases leI 0 n
      ·rw[cond_false];exact put _ _ hl hl3
      ·rw[cond_true];exact put _ _ hl hl3
    ·rw[cond_true]
     exact ZeN s hs k a (i+1) (wI (m+1)) (i+1) out (by omega) (by omega) (by omega) (by omega) ho hb
   by_cases hi2:i< (s.size:Int)
   ·simp only[Zf hi2,cond_true,Zd (show i≠(s.size:Int) by omega),cond_false]
    cases neI (bt s i) 10
    ·rw[cond_false];exact line
    ·rw[cond_true];exact skip
   ·simp only[Zp hi2,cond_false,Zi (show i=(s.size:Int) by omega),cond_true]
    cases eqI f (s.size:Int)
    ·rw[cond_false];exact line
    ·rw[cond_true];exact skip
  ·simp only[YI hi,cond_false]
   exact .ret (.inl ⟨_,_,_,_,_,rfl,ho,hb⟩)
theorem ZiN (n:Nat):QM (List.replicate n 0):=fun x hx=>by rw[(List.mem_replicate.1 hx).2];decide
theorem ZiK (s:ByteArray):Ans (r277 (s,())) fun r=> ∃(l:List Int) (c:Int),r=((l,(c,())),())∧QM l:=by
 unfold r277 m277
 dsimp only
 by_cases h:3000< (s.size:Int)
 ·rw[Zf h,cond_true];exact .ret ⟨_,_,rfl,WC⟩
 ·rw[Zp h,cond_false]
  refine (ZeN s (by omega) fuel 0 0 0 0 (List.replicate 256 0) (by omega) (by omega) (by omega) (by have:=ZQ;omega) (List.length_replicate ..) (ZiN _)).bind ?_
  rintro _ (⟨a,f,m,i,out,rfl,ho,hb⟩| ⟨c,rfl⟩)
  ·exact .ret ⟨_,_,rfl,hb⟩
  ·exact .ret ⟨_,_,rfl,WC⟩
theorem ZnC {b:List Int} {t:Ji} (h:Cur b t):Ans (r278 ((b,t),())) (Dr b fun v:ByteArray=>v.size≤400):=by
 unfold r278 m278
 refine (Zjc h _ (by decide)).bind ?_
 rintro _ ⟨v,t1,rfl,hc,hv⟩
 have hv:ByteArray.size v≤200:=by
  revert hv
  revert v
  decide+kernel
 dsimp only
 generalize hz:(bz _)=z
 have hz:z.size≤200:=by rw[←hz];decide+kernel
 rw[ZO (show ByteArray.size v+z.size≤4611686018427387904 by omega),cond_true]
 refine .ret ⟨_,_,rfl,hc,?_⟩
 show ByteArray.size (v++z)≤400
 rw[ByteArray.size_append]
 omega
theorem Zab {b:List Int}: ∀(k:Nat) (i:Int) (out:List Int) (t:Ji),Cur b t→0≤i→i≤256→256-i<k→out.length=256→QM out→
  Ans (n275_0 r137 r138 k () ((b,t),()) (i,(out,()))) fun r=> ∃(i':Int) (out':List Int) (t':Ji),r=(Sum.inl (i',(out',())),((b,t'),()))∧Cur b t'∧out'.length=256∧QM out'
 |0,_,_,_,_,_,h1,h2,_,_=>absurd h2 (by omega)
 |k+1,i,out,t,h,h0,h1,h2,ho,hb=>by
  show Ans (bif ltI i 256 then _ else some (Sum.inl (i,(out,())),((b,t),()))) _
  by_cases hi:i<256
  ·rw[Zf hi,cond_true]
   refine (J6 h 4).bind ?_
   rintro _ ⟨q,t1,rfl,hc,_⟩
   have e1:wI (i+1)=i+1:=Zj (by omega) (by omega)
   have e2:ltI i (Zb out)=true:=Zf (by rw[Zl,ho];exact hi)
   dsimp only
   simp only[Zo h0,e1,e2,cond_true]
   cases eqI q 0
   ·rw[cond_false]
    cases eqI q 1
    ·rw[cond_false]
     cases eqI q 2
     ·rw[cond_false]
      exact Zab k _ _ _ hc (by omega) (by omega) (by omega) ho hb
     ·rw[cond_true]
      refine (J6 hc 256).bind ?_
      rintro _ ⟨(v:Int),t2,rfl,hc,hv,_⟩
      exact Zab k _ _ _ hc (by omega) (by omega) (by omega) (by rw[List.length_set];exact ho) (ZbN hb _ (show 0≤v∧v≤255 by have:=hv (by decide);omega))
    ·rw[cond_true]
     refine (Uv hc _ (by decide)).bind ?_
     rintro _ ⟨v,t2,rfl,hc,hv⟩
     have hv:0≤v∧v≤255:=by
      revert hv
      revert v
      decide
     exact Zab k _ _ _ hc (by omega) (by omega) (by omega) (by rw[List.length_set];exact ho) (ZbN hb _ hv)
   ·rw[cond_true]
    refine (J6 hc 30).bind ?_
    rintro _ ⟨(v:Int),t2,rfl,hc,hv,_⟩
    exact Zab k _ _ _ hc (by omega) (by omega) (by omega) (by rw[List.length_set];exact ho) (ZbN hb _ (show 0≤v∧v≤255 by have:=hv (by decide);omega))
  ·rw[Zp hi,cond_false]
   exact .ret ⟨_,_,_,rfl,h,ho,hb⟩
theorem Zig {b:List Int} {t:Ji} (h:Cur b t):Ans (r275 ((b,t),())) (Dr b fun v:List Int=>v.length=256∧QM v):=by
 unfold r275 m275
 refine (Zab fuel 0 (List.replicate 256 0) t h (by omega) (by omega) (by have:=ZQ;omega) (List.length_replicate ..) (ZiN _)).bind ?_
 rintro _ ⟨i,out,t',rfl,hc,ho,hb⟩
 exact .ret ⟨_,_,rfl,hc,ho,hb⟩
def VS (f:List (List Int)):Prop:= ∀l,l∈f→l.length=256∧QM l
theorem ZiM {f:List (List Int)} (h:VS f) (i:Nat) {l:List Int} (hl:l.length=256∧QM l):VS (f.set i l):=fun x hx=>by
 rcases List.mem_or_eq_of_mem_set hx with h1|h1
 ·exact h x h1
 ·rw[h1];exact hl
theorem Zew {b:List Int} (n:Int) (hn:n≤3): ∀(k:Nat) (i:Int) (f:List (List Int)) (t:Ji),Cur b t→0≤i→i≤n→n-i<k→(f.length:Int)=i→VS f→
  Ans (n209_0 r277 r137 r276 r275 r278 k (n,()) ((b,t),((f,()),())) (i,())) fun r=> ∃(i':Int) (f':List (List Int)) (t':Ji),r=(Sum.inl (i',()),((b,t'),((f',()),())))∧Cur b t'∧(f'.length:Int)=n∧VS f'
 |0,_,_,_,_,_,h1,h2,_,_=>absurd h2 (by omega)
 |k+1,i,f,t,h,h0,h1,h2,hl,hb=>by
  show Ans (bif ltI i n then _ else some (Sum.inl (i,()),((b,t),((f,()),())))) _
  by_cases hi:i<n
  ·rw[Zf hi,cond_true]
   refine (Zig h).bind ?_
   rintro _ ⟨q,t1,rfl,hc,hq⟩
   dsimp only
   rw[ZO (show f.length+[q].length≤E.most .n by show f.length+1≤5864062014805;omega),cond_true,Zj (x:=i+1) (by omega) (by omega)]
   refine Zew n hn k (i+1) (f++[q]) _ hc (by omega) (by omega) (by omega) (by rw[List.length_append,List.length_singleton];omega) fun l hl=> ?_
   rcases List.mem_append.1 hl with h3|h3
   ·exact hb l h3
   ·rw[List.mem_singleton.1 h3];exact hq
  ·rw[Zp hi,cond_false]
   exact .ret ⟨_,_,_,rfl,h,by omega,hb⟩
theorem Zem {R:Type} {f:List (List Int)} {i:Nat} {j v:Int} {K:List (List Int)→Option R} {P:R→Prop} (hi:i<f.length) (hb:VS f) (hj:0≤j∧j<256) (hv:0≤v∧v≤255) (hK: ∀g:List (List Int),g.length=f.length→VS g→Ans (K g) P):Ans (vec1 f (i:Int) j v K) P:=by
 unfold vec1
 have e:rdE .n f (i:Int)=f[i]:=QC .n f i hi
 obtain ⟨h1,h2⟩:=hb f[i] (List.getElem_mem hi)
 rw[show ltI j (Zb (rdE .n f (i:Int)))=true from Zf (by rw[Zl,e];omega),cond_true]
 exact hK _ (List.length_set ..) (ZiM hb _ ⟨by rw[List.length_set,e];exact h1,ZbN (by rw[e];exact h2) _ hv⟩)
theorem ZiA {R:Type} {f:List (List Int)} {i:Nat} {K:List (List Int)→Option R} {P:R→Prop} (hi:i<f.length) (hb:VS f) (hK: ∀g:List (List Int),g.length=f.length→VS g→Ans (K g) P):Ans (ZoO f (i:Int) K) P:=by
 unfold ZoO
 rw[Zo (by omega),cond_true,Zl,Zf (by omega),cond_true]
 refine Zem hi hb (by omega) (by omega) fun g e1 hb=>Zem (by omega) hb (by omega) (by omega) fun g e2 hb=>Zem (by omega) hb (by omega) (by omega) fun g e3 hb=>Zem (by omega) hb (by omega) (by omega) fun g e4 hb=>Zem (by omega) hb (by omega) (by omega) fun g e5 hb=>Zem (by omega) hb (by omega) (by omega) fun g e6 hb=>hK g (by omega) hb
theorem ZgH {b:List Int} {t:Ji} (h:Cur b t):Ans (r209 ((b,t),())) (Dr b fun v:Tup [.sl true .n]=>YE v.1∧v.1.length≤3):=by
 unfold r209 m209
 refine (J6 h 3).bind ?_
 rintro _ ⟨v,t1,rfl,hc,hv,_⟩
 have hv:=hv (by decide)
 have e1:wI (1+v)=1+v:=Zj (by omega) (by omega)
 dsimp only
 rw[e1]
 refine (Zew (1+v) (by omega) fuel 0 [] t1 hc (by omega) (by omega) (by have:=ZQ;omega) rfl (fun l hl=>by cases hl)).bind ?_
 rintro _ ⟨i,f,t2,rfl,hc,hf,hb⟩
 have e2:wI (1+v-1)=(v.toNat:Int):=by rw[Zj (by omega) (by omega)];omega
 dsimp only[Zu]
 rw[e2]
 have fin: ∀(g:List (List Int)) (t3:Ji),g.length=f.length→VS g→Cur b t3→Ans (some (((g,()),()),((b,t3),()))) (Dr b fun v:Tup [.sl true .n]=>YE v.1∧v.1.length≤3):=fun g t3 hg hb hc=>
  .ret ⟨(g,()),t3,rfl,hc,⟨hb,by show 1≤g.length;omega,by show g.length≤8;omega⟩,by show g.length≤3;omega⟩
 refine (Zjb hc 4).bind ?_
 rintro _ ⟨o,t3,rfl,hc,_⟩
 dsimp only
 cases o
 ·rw[Bool.not_false,cond_true]
  refine (ZnC hc).bind ?_
  rintro _ ⟨s,t4,rfl,hc,hs⟩
  refine (ZiK s).bind ?_
  rintro _ ⟨l,c,rfl,hl⟩
  dsimp only
  by_cases h256:(l.length:Int)=256
  ·rw[Zl,Zi h256,cond_true,Zo (by omega),cond_true,Zl,Zf (by omega),cond_true]
   refine ZiA (by rw[List.length_set];omega) (ZiM hb _ ⟨by omega,hl⟩) fun g hg hb=>fin g _ (by rw[hg,List.length_set]) hb hc
  ·rw[Zl,Zd h256,cond_false]
   exact ZiA (by omega) hb fun g hg hb=>fin g _ hg hb hc
 ·rw[Bool.not_true,cond_false]
  exact ZiA (by omega) hb fun g hg hb=>fin g _ hg hb hc
theorem Zgj (f:List (List Int)) (p:List Int) (cap:Int) (h:YE f) (hp:J4 p) (hc:1≤cap∧cap≤16):r208 ((f,()),(p,(cap,())))=some (((Y9 f p cap).t,(true,())),()):=by
 have hP:=Zp6 h hp hc
 have hl:=hp.len
 unfold r208 m208
 refine Za (Zal f h.small) ?_
 show (bif leN (0+p.length) (E.most .i)then _ else none)=_
 rw[ZO (show 0+p.length≤E.most .i by simp only[E.most];omega),cond_true]
 refine Za (y:=((Yt.t,()),())) rfl (Za (ZdD f h) (Za (y:=(((YC f p).ppu.t,()),())) rfl (Za (KK (Y9 f p cap).t (hP.s (Nat.zero_le _))) ?_)))
 show (bif !Qd (Y9 f p cap).t then _ else _)=_
 rw[JN.2 hP,Bool.not_true,cond_false]
 rfl
theorem ZpD {p:List Int} {v:Int} (h:QM p) (hv:0≤v∧v≤255):QM (p++[v]):=fun x hx=>by
 rcases List.mem_append.1 hx with h3|h3
 ·exact h x h3
 ·rw[List.mem_singleton.1 h3];exact hv
theorem ZeA {b:List Int}: ∀(k:Nat) (i:Int) (p:List Int) (t:Ji),Cur b t→0≤i→i≤3→3-i<k→(p.length:Int)=i→QM p→
  Ans (n136_0 r208 r137 r209 k () ((b,t),()) (p,(i,()))) fun r=> ∃(i':Int) (p':List Int) (t':Ji),r=(Sum.inl (p',(i',())),((b,t'),()))∧Cur b t'∧J4 p'
 |0,_,_,_,_,_,h1,h2,_,_=>absurd h2 (by omega)
 |k+1,i,p,t,h,h0,h1,h2,hl,hb=>by
  unfold n136_0 w136_0
  refine (J6 h 4).bind ?_
  rintro _ ⟨(v:Int),t1,rfl,hc,hv,_⟩
  have hv:=hv (by decide)
  dsimp only
  by_cases hi:i<v
  ·rw[Zf hi,cond_true]
   refine (J6 hc 256).bind ?_
   rintro _ ⟨(w:Int),t2,rfl,hc,hw,_⟩
   have hw:=hw (by decide)
   dsimp only
   rw[ZO (show p.length+[w].length≤E.most .i by show p.length+1≤17592186044416;omega),cond_true,Zj (x:=i+1) (by omega) (by omega)]
   exact ZeA k (i+1) _ _ hc (by omega) (by omega) (by omega) (by rw[List.length_append,List.length_singleton];omega) (ZpD hb (by omega))
  ·rw[Zp hi,cond_false]
   exact .ret ⟨_,_,_,rfl,hc,⟨by omega,hb⟩⟩
theorem Zie {b:List Int} {t:Ji} (h:Cur b t):Ans (r136 ((b,t),())) (Dr b fun v:Tup Qi=> ∃(f:List (List Int)) (p:List Int) (cap:Int),v=(Y9 f p cap).t∧YE f∧J4 p∧1≤cap∧cap≤5):=by
 unfold r136 m136
 refine (ZeA fuel 0 [] t h (by omega) (by omega) (by have:=ZQ;omega) rfl WC).bind ?_
 rintro _ ⟨i,p,t1,rfl,hc,hp⟩
 dsimp only[Zu]
 refine (ZgH hc).bind ?_
 rintro _ ⟨⟨f,_⟩,t2,rfl,hc,hf,_⟩
 refine (J6 hc 5).bind ?_
 rintro _ ⟨(v:Int),t3,rfl,hc,hv,_⟩
 have hv:=hv (by decide)
 dsimp only
 rw[Zj (x:=1+v) (by omega) (by omega)]
 refine (Ans.of (Zgj f p (1+v) hf hp (by omega))).bind ?_
 rintro _ rfl
 exact .ret ⟨_,_,rfl,hc,f,p,1+v,rfl,hf,hp,by omega,by omega⟩
structure VV (s:Zc) (n:Nat):Prop where
 b:US s
 r:s.reads.length≤n
 st:s.steps≤n
theorem ZpN {s:Zc} {n:Nat} (h:VV s n) (who:Int):VV (QI s who) (n+1):=by
 obtain ⟨a,b⟩:=Zm2 h.b who
 have c:=(ZfU h.b.sim.p who).2
 have:=h.r
 have:=h.st
 exact ⟨a,by omega,by omega⟩
theorem ZjC (m who:Int): ∀(k:Nat) (i:Int) (s:Zc) (n:Nat),0≤i→i≤m→m≤100→m-i<k→VV s n→n+(m-i).toNat≤200000→
  Ans (n135_0 r25 r137 k (m,(who,())) (s.t,()) (i,())) fun r=> ∃(i':Int) (s':Zc),r=(Sum.inl (i',()),(s'.t,()))∧VV s' (n+(m-i).toNat)
 |0,_,_,_,_,h1,_,h2,_,_=>absurd h2 (by omega)
 |k+1,i,s,n,h0,h1,hm,h2,h,hn=>by
  show Ans (bif ltI i m then _ else some (Sum.inl (i,()),(s.t,()))) _
  by_cases hi:i<m
  ·rw[Zf hi,cond_true]
   have hr:=h.r
   refine (Ans.of (Zgh s who h.b.sim.p (by unfold ZA;omega))).bind ?_
   rintro _ rfl
   dsimp only
   rw[Zj (x:=i+1) (by omega) (by omega)]
   refine (ZjC m who k (i+1) (QI s who) (n+1) (by omega) (by omega) hm (by omega) (ZpN h who) (by omega)).mono ?_
   rintro _ ⟨i',s',rfl,hs⟩
   exact ⟨i',s',rfl,by rw[show n+(m-i).toNat=n+1+(m-(i+1)).toNat by omega];exact hs⟩
  ·rw[Zp hi,cond_false]
   refine .ret ⟨_,_,rfl,?_⟩
   rw[show n+(m-i).toNat=n by omega]
   exact h
theorem ZjD {b:List Int} (m:Int) (hm:m≤60): ∀(k:Nat) (i:Int) (s:Zc) (t:Ji) (n:Nat),Cur b t→0≤i→i≤m→m-i<k→VV s n→n+12*(m-i).toNat≤100000→
  Ans (n135_1 r25 r137 L135_0 k (m,()) ((b,t),(s.t,())) (i,())) fun r=> ∃(i':Int) (s':Zc) (t':Ji),r=(Sum.inl (i',()),((b,t'),(s'.t,())))∧Cur b t'∧VV s' (n+12*(m-i).toNat)
 |0,_,_,_,_,_,_,h1,h2,_,_=>absurd h2 (by omega)
 |k+1,i,s,t,n,h,h0,h1,h2,hs,hn=>by
  show Ans (bif ltI i m then _ else some (Sum.inl (i,()),((b,t),(s.t,())))) _
  by_cases hi:i<m
  ·rw[Zf hi,cond_true]
   refine (J6 h 12).bind ?_
   rintro _ ⟨(v:Int),t1,rfl,hc,hv,_⟩
   have hv:=hv (by decide)
   refine (J6 hc 3).bind ?_
   rintro _ ⟨(who:Int),t2,rfl,hc,_,_⟩
   dsimp only
   rw[Zj (x:=1+v) (by omega) (by omega)]
   refine (ZjC (1+v) who fuel 0 s n (by omega) (by omega) (by omega) (by have:=ZQ;omega) hs (by omega)).bind ?_
   rintro _ ⟨i',s',rfl,hs'⟩
   dsimp only[Zu]
   rw[Zj (x:=i+1) (by omega) (by omega)]
   refine (ZjD m hm k (i+1) s' t2 (n+12) hc (by omega) (by omega) (by omega) ⟨hs'.b,by have:=hs'.r;omega,by have:=hs'.st;omega⟩ (by omega)).mono ?_
   rintro _ ⟨i'',s'',t3,rfl,hc,hs''⟩
   exact ⟨i'',s'',t3,rfl,hc,by rw[show n+12*(m-i).toNat=n+12+12*(m-(i+1)).toNat by omega];exact hs''⟩
  ·rw[Zp hi,cond_false]
   refine .ret ⟨_,_,_,rfl,h,?_⟩
   rw[show n+12*(m-i).toNat=n by omega]
   exact hs
theorem Zif {b:List Int} {t:Ji} (h:Cur b t) {s:Zc} (hs:VV s 0):Ans (r135 ((b,t),(s.t,((60:Int),())))) (Dr b fun v:Tup Qi=> ∃s':Zc,v=s'.t∧VV s' 720):=by
 unfold r135 m135
 dsimp only
 refine (J6 h (wI (60+1))).bind ?_
 rintro _ ⟨(v:Int),t1,rfl,hc,hv,_⟩
 rw[Zj (x:=60+1) (by omega) (by omega)]at hv
 have hv:=hv (by decide)
 refine (ZjD v (by omega) fuel 0 s t1 0 hc (by omega) (by omega) (by have:=ZQ;omega) hs (by omega)).bind ?_
 rintro _ ⟨i',s',t2,rfl,hc,hs'⟩
 exact .ret ⟨_,_,rfl,hc,s',rfl,hs'.b,by have:=hs'.r;omega,by have:=hs'.st;omega⟩
theorem Zpx {f:List (List Int)} {p:List Int} {cap:Int} (h:YE f) (hp:J4 p) (hc:1≤cap∧cap≤16):VV (Y9 f p cap) 0:=⟨Zo1 h hp hc,Nat.le_refl _,Int.le_refl _⟩
theorem upT (s:Zc) (v:Int):(m2 (m2 (m2 (m2 (m2 (m2 (m2 (m2 (m2 (m2 (m2 (m2 (m2 (m2 (fun p=>(v,p.2))))))))))))))) s.t:Tup Qi)={s with T:=v}.t:=by
 obtain ⟨img,pads,⟨ram,bank⟩,⟨ca,cx,cs,cpc,cz,cn,cc,ci⟩,⟨held,shift⟩,T,nmi,ctrl,known,knownAt,steps,reads,⟨⟨pT,pc,ps,pa,pp,pb,ptb,pds⟩,pcap,pl,pf⟩,⟨⟨sT,sp,sc,sb,sl,sa,si⟩,scap,slist,ss⟩⟩:=s
 rfl
theorem ZsH (s:Zc):(m2 (m2 (m2 (m2 (m2 (m2 (m2 (m2 (m2 (m2 (m2 (m2 (m2 (m2 (m2 (fun p=>(!p.1,p.2)))))))))))))))) s.t:Tup Qi)={s with nmi:= !s.nmi}.t:=by
 obtain ⟨img,pads,⟨ram,bank⟩,⟨ca,cx,cs,cpc,cz,cn,cc,ci⟩,⟨held,shift⟩,T,nmi,ctrl,known,knownAt,steps,reads,⟨⟨pT,pc,ps,pa,pp,pb,ptb,pds⟩,pcap,pl,pf⟩,⟨⟨sT,sp,sc,sb,sl,sa,si⟩,scap,slist,ss⟩⟩:=s
 rfl
theorem Zr1 (s:Zc) (v:Int):(m2 (m2 (m2 (m2 (m2 (m2 (m2 (m2 (m2 (m2 (m2 (m2 (m2 (m2 (m2 (m2 (fun p=>(v,p.2))))))))))))))))) s.t:Tup Qi)={s with ctrl:=v}.t:=by
 obtain ⟨img,pads,⟨ram,bank⟩,⟨ca,cx,cs,cpc,cz,cn,cc,ci⟩,⟨held,shift⟩,T,nmi,ctrl,known,knownAt,steps,reads,⟨⟨pT,pc,ps,pa,pp,pb,ptb,pds⟩,pcap,pl,pf⟩,⟨⟨sT,sp,sc,sb,sl,sa,si⟩,scap,slist,ss⟩⟩:=s
 rfl
theorem Zrk (s:Zc):(m2 (m2 (m2 (m2 (m2 (m2 (m2 (m2 (m2 (m2 (m2 (m2 (m2 (m2 (m2 (m2 (m2 (fun p=>(!p.1,p.2)))))))))))))))))) s.t:Tup Qi)={s with known:= !s.known}.t:=by
 obtain ⟨img,pads,⟨ram,bank⟩,⟨ca,cx,cs,cpc,cz,cn,cc,ci⟩,⟨held,shift⟩,T,nmi,ctrl,known,knownAt,steps,reads,⟨⟨pT,pc,ps,pa,pp,pb,ptb,pds⟩,pcap,pl,pf⟩,⟨⟨sT,sp,sc,sb,sl,sa,si⟩,scap,slist,ss⟩⟩:=s
 rfl
theorem ZoJ (s:Zc) (v:Int):(m2 (m2 (m2 (m2 (m2 (m2 (m2 (m2 (m2 (m2 (m2 (m2 (m2 (m2 (m2 (m2 (m2 (m2 (fun p=>(v,p.2))))))))))))))))))) s.t:Tup Qi)={s with knownAt:=v}.t:=by
 obtain ⟨img,pads,⟨ram,bank⟩,⟨ca,cx,cs,cpc,cz,cn,cc,ci⟩,⟨held,shift⟩,T,nmi,ctrl,known,knownAt,steps,reads,⟨⟨pT,pc,ps,pa,pp,pb,ptb,pds⟩,pcap,pl,pf⟩,⟨⟨sT,sp,sc,sb,sl,sa,si⟩,scap,slist,ss⟩⟩:=s
 rfl
theorem ZsG (s:Zc) (c:Tup Yr):(m2 (m2 (m2 (m2 (Zrw c)))) s.t:Tup Qi)={s with cpu:=Zr6 c}.t:=by
 obtain ⟨img,pads,⟨ram,bank⟩,⟨ca,cx,cs,cpc,cz,cn,cc,ci⟩,⟨held,shift⟩,T,nmi,ctrl,known,knownAt,steps,reads,⟨⟨pT,pc,ps,pa,pp,pb,ptb,pds⟩,pcap,pl,pf⟩,⟨⟨sT,sp,sc,sb,sl,sa,si⟩,scap,slist,ss⟩⟩:=s
 rfl
theorem Zr2 (s:Zc) (v:Rc):(m2 (m2 (m2 (m2 (m2 (m2 (m2 (m2 (m2 (m2 (m2 (m2 (m2 (m2 (m2 (m2 (m2 (m2 (m2 (m2 (m2 (m2 (m2 (m2 (m2 (m2 (m2 (m2 (m2 (m2 (m2 (m2 (m2 (m2 (m2 (m2 (m2 (m2 (m2 (m2 (fun p=>(p.1++[v],p.2))))))))))))))))))))))))))))))))))))))))) s.t:Tup Qi)={s with snd:={s.snd with list:=s.snd.list++[v]}}.t:=by
 obtain ⟨img,pads,⟨ram,bank⟩,⟨ca,cx,cs,cpc,cz,cn,cc,ci⟩,⟨held,shift⟩,T,nmi,ctrl,known,knownAt,steps,reads,⟨⟨pT,pc,ps,pa,pp,pb,ptb,pds⟩,pcap,pl,pf⟩,⟨⟨sT,sp,sc,sb,sl,sa,si⟩,scap,slist,ss⟩⟩:=s
 rfl
theorem Xw (s:Zc):ZM s.t↔(small s.img∧s.pads.length≤4398046511104∧s.mem.ram.length≤4398046511104∧s.reads.length≤4398046511104∧(K9 s.pic.ppu.t∧s.pic.list.length≤4398046511104∧small s.pic.frames)∧s.snd.list.length≤4398046511104∧s.snd.samples.length≤4398046511104):=Iff.rfl
def Zsg (v:Tup Qi):Prop:= ∃s:Zc,v=s.t∧ZM s.t∧s.reads.length≤1000
theorem Zmc {b:List Int} {t:Ji} (h:Cur b t):Ans (r64 ((b,t),())) (Dr b Zsg):=by
 unfold r64 m64
 refine (Zie h).bind ?_
 rintro _ ⟨_,t1,rfl,hc,f,p,cap,rfl,hf,hp,c1,c2⟩
 refine (Zif hc (Zpx hf hp (by omega))).bind ?_
 rintro _ ⟨_,t2,rfl,hc,s,rfl,hs⟩
 have hr:s.reads.length≤1000:=by have:=hs.r;omega
 have ho:ZM s.t:=hs.b.sim.p.s (by omega)
 have hlen:s.snd.list.length≤16:=by have:=hs.b.sim.p.snd.ring.len;have:=hs.b.sim.p.snd.ring.c1;omega
 refine (J6 hc 30).bind ?_
 rintro _ ⟨(q:Int),t3,rfl,hc,_,_⟩
 dsimp only
 cases eqI q 0
 ·rw[cond_false]
  cases eqI q 1
  ·rw[cond_false]
   cases eqI q 2
   ·rw[cond_false]
    cases eqI q 3
    ·rw[cond_false]
     cases eqI q 4
     ·rw[cond_false]
      cases eqI q 5
      ·rw[cond_false]
       cases eqI q 6
       ·rw[cond_false]
        exact .ret ⟨_,_,rfl,hc,s,rfl,ho,hr⟩
       ·rw[cond_true]
        refine (Uv hc _ (by decide)).bind ?_
        rintro _ ⟨(v:Int),t4,rfl,hc,_⟩
        exact .ret ⟨_,_,rfl,hc,{s with ctrl:=v},Zr1 s v,(Xw _).2 ((Xw s).1 ho),hr⟩
      ·rw[cond_true]
       refine (J6 hc 2).bind ?_
       rintro _ ⟨(v:Int),t4,rfl,hc,_⟩
       dsimp only
       rw[ZO (by show s.snd.list.length+1≤5864062014805;omega),cond_true]
       obtain ⟨o1,o2,o3,o4,o5,o6,o7⟩:=(Xw s).1 ho
       exact .ret ⟨_,_,rfl,hc,{s with snd:={s.snd with list:=s.snd.list++[(wI (s.T+v),((0:Int),(0:Int)))]}},Zr2 s _,(Xw _).2 ⟨o1,o2,o3,o4,o5,(by show (s.snd.list++_).length≤4398046511104;rw[List.length_append,List.length_singleton];omega),o7⟩,hr⟩
     ·rw[cond_true]
      refine (ZnF hc).bind ?_
      rintro _ ⟨v,t4,rfl,hc,_⟩
      exact .ret ⟨_,_,rfl,hc,{s with cpu:=Zr6 v},ZsG s v,(Xw _).2 ((Xw s).1 ho),hr⟩
    ·rw[cond_true]
     exact .ret ⟨_,_,rfl,hc,{s with known:= !s.known},Zrk s,(Xw _).2 ((Xw s).1 ho),hr⟩
   ·rw[cond_true]
    exact .ret ⟨_,_,rfl,hc,{s with nmi:= !s.nmi},ZsH s,(Xw _).2 ((Xw s).1 ho),hr⟩
  ·rw[cond_true]
   refine (J6 hc 99).bind ?_
   rintro _ ⟨(v:Int),t4,rfl,hc,_⟩
   exact .ret ⟨_,_,rfl,hc,{s with knownAt:=wI (v-1)},ZoJ s _,(Xw _).2 ((Xw s).1 ho),hr⟩
 ·rw[cond_true]
  refine (Uv hc _ (by simp)).bind ?_
  rintro _ ⟨(v:Int),t4,rfl,hc,_⟩
  exact .ret ⟨_,_,rfl,hc,{s with T:=v},upT s v,(Xw _).2 ((Xw s).1 ho),hr⟩
theorem ZrT {U V:Type} {x:Option ((Bool×U)×V)} {u:U} {v:V} (h:Ans x fun r=>r=((true,u),v)):x=some ((true,u),v):=by
 obtain ⟨r,rfl,rfl⟩:=h
 rfl
theorem Zpw (a:Int):neI a a=false:=JU rfl
theorem ZsB {s:Zc} (h:s.reads.length≤1000):ZA s:=by unfold ZA;omega
theorem Zrr (b:List Int):r12 (b,())=some ((ltI 1048576 (Zb b),()),()):=rfl
theorem Zdv (l:List Int) (hl:l.length≤4398046511104): ∀(k i:Nat),i≤l.length→l.length-i<k→n66_0 k (l,(l,())) () ((i:Int),())=some (Sum.inl ((l.length:Int),()),())
 |0,_,_,h=>absurd h (by omega)
 |k+1,i,hi,hk=>by
  show (bif ltI (i:Int) (Zb l)then _ else some (Sum.inl ((i:Int),()),()))=_
  by_cases h:i<l.length
  ·simp only[Zl,Zf (show (i:Int)< (l.length:Int) by omega),Zo (show (0:Int)≤(i:Int) by omega),cond_true,Zpw,cond_false]
   rw[Jd (by omega)]
   exact Zdv l hl k (i+1) (by omega) (by omega)
  ·obtain rfl:i=l.length:=by omega
   rw[Zl,Zp (by omega),cond_false]
theorem Zaj (l:List Int) (hl:l.length≤4398046511104):r66 (l,(l,()))=some ((true,()),()):=by
 unfold r66 m66
 dsimp only
 rw[Zpw,cond_false]
 exact Za (Zdv l hl fuel 0 (Nat.zero_le _) (by have:=ZQ;omega)) rfl
theorem Zdw (l:List Rc) (hl:l.length≤4398046511104): ∀(k i:Nat),i≤l.length→l.length-i<k→n68_0 k (l,(l,())) () ((i:Int),())=some (Sum.inl ((l.length:Int),()),())
 |0,_,_,h=>absurd h (by omega)
 |k+1,i,hi,hk=>by
  show (bif ltI (i:Int) (Zb l)then _ else some (Sum.inl ((i:Int),()),()))=_
  by_cases h:i<l.length
  ·simp only[Zl,Zf (show (i:Int)< (l.length:Int) by omega),Zo (show (0:Int)≤(i:Int) by omega),cond_true,ZhV,Bool.and_self,Bool.not_true,cond_false]
   rw[Jd (by omega)]
   exact Zdw l hl k (i+1) (by omega) (by omega)
  ·obtain rfl:i=l.length:=by omega
   rw[Zl,Zp (by omega),cond_false]
theorem Zdx (l:List Rc) (hl:l.length≤4398046511104):r68 (l,(l,()))=some ((true,()),()):=by
 unfold r68 m68
 dsimp only
 rw[Zpw,cond_false]
 exact Za (Zdw l hl fuel 0 (Nat.zero_le _) (by have:=ZQ;omega)) rfl
theorem ZjF (p:ZJ) (h:K9 p.t):r67 (p.t,(p.t,()))=some ((true,()),()):=by
 unfold r67 m67
 dsimp only
 simp only[ZhV,cond_true,beq_self_eq_true]
 exact Za (Zaj p.table h.1) (Za (Zaj p.dots h.2) rfl)
theorem ZcG (s:Zc) (h:ZM s.t):r14 (s.t,(s.t,()))=some ((true,()),()):=by
 obtain ⟨h1,h2,h3,h4,⟨h5,h6,h7⟩,h8,h9⟩:=h
 unfold r14 m14
 dsimp only
 simp only[ZhV,Zpw,beq_self_eq_true,Bool.and_self,Bool.not_true,cond_false,cond_true]
 exact Za (Zaj s.mem.ram h3) (Za (Zaj s.reads h4) (Za (ZjF s.pic.ppu h5) (Za (Zaj s.snd.samples h9) (Za (Zdx s.pic.list h6) (Za (Zdx s.snd.list h8) rfl)))))
theorem ZrE {U V:Type} (b:List Int) (u:U) (v:V) {x:Option ((Bool×U)×V)} (h:b.length≤1048576→Ans x fun r=>r=((true,u),v)):Ans (bif ltI 1048576 (Zb b)then some ((true,u),v)else x) fun r=>r=((true,u),v):=by
 by_cases hb:1048576< (b.length:Int)
 ·rw[Zl,Zf hb,cond_true]
  exact .ret rfl
 ·rw[Zl,Zp hb,cond_false]
  exact h (by omega)

end Go.Proofs.YtleidaafbhojfaaGreatDoor.Plain
