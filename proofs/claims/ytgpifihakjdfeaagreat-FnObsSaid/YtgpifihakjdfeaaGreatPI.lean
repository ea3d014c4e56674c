/- Plain laws of the printed functions: Draw, Draw2, LawS. No condition beyond those that each lemma states. -/
import Derived.Test.YtgpifihakjdfeaaGreatPH
set_option linter.unusedVariables false
set_option linter.unusedSimpArgs false
namespace Go.Proofs.YtgpifihakjdfeaaGreat.Plain
open Go Go.Tev
def Ans {R:Type} (x:Option R) (P:R→Prop):Prop:= ∃r,x=some r∧P r
theorem Ans.bind {A B:Type} {x:Option A} {P:A→Prop} {f:A→Option B} {Q:B→Prop} (h:Ans x P) (k: ∀a,P a→Ans (f a) Q):Ans (x.bind f) Q:=by
 obtain ⟨a,rfl,ha⟩:=h
 exact k a ha
theorem Ans.ret {R:Type} {r:R} {P:R→Prop} (h:P r):Ans (some r) P:=⟨r,rfl,h⟩
theorem Ans.of {R:Type} {x:Option R} {r:R} (h:x=some r):Ans x fun a=>a=r:=⟨r,h,rfl⟩
abbrev CurT:=Int×Int×Unit
def Cur (b:List Int) (t:CurT):Prop:=(0≤t.1∧t.1≤(b.length:Int))∧b.length≤1048576
def Dr {V:Type} (b:List Int) (P:V→Prop) (r:(V×Unit)×((List Int×CurT)×Unit)):Prop:= ∃v t,r=((v,()),((b,t),()))∧Cur b t∧P v
theorem l1New_loop (b:List Int) (hb:b.length≤1048576): ∀(k:Nat) (h i:Int),0≤i→i≤(b.length:Int)→(b.length:Int)-i<k→Ans (n54_0 k (b,()) () (h,(i,()))) fun r=> ∃h' i':Int,r=(Sum.inl (h',(i',())),())
 |0,_,_,_,h1,h2=>absurd h2 (by omega)
 |k+1,h,i,h0,h1,h2=>by
  show Ans (bif ltI i (lenI b)then _ else some (Sum.inl (h,(i,())),())) _
  by_cases hi:i< (b.length:Int)
  ·by_cases h4:i<4000
   ·simp only[lenI_def,ltI_t hi,ltI_t h4,leI_t h0,cond_true]
    rw[wI_id (x:=i+1) (by omega) (by omega)]
    exact l1New_loop b hb k _ _ (by omega) (by omega) (by omega)
   ·simp only[lenI_def,ltI_t hi,ltI_f h4,cond_true,cond_false]
    exact .ret ⟨_,_,rfl⟩
  ·rw[lenI_def,ltI_f hi,cond_false]
   exact .ret ⟨_,_,rfl⟩
theorem l1New_ok (b:List Int) (hb:b.length≤1048576):Ans (r54 (b,())) fun r=> ∃t:CurT,r=(((b,t),()),())∧Cur b t:=by
 unfold r54 m54
 refine (l1New_loop b hb fuel _ 0 (by omega) (by omega) (by have:=fuel_big;omega)).bind ?_
 rintro _ ⟨h',i',rfl⟩
 exact .ret ⟨_,rfl,⟨Int.le_refl _,by show (0:Int)≤_;omega⟩,hb⟩
theorem l1Byte_ok {b:List Int} {t:CurT} (h:Cur b t):Ans (r130 ((b,t),())) (Dr b fun v:Int=>0≤v∧v≤255):=by
 obtain ⟨i,hh,_⟩:=t
 obtain ⟨⟨h0,h1⟩,hb⟩:=h
 have h0:0≤i:=h0
 have h1:i≤(b.length:Int):=h1
 unfold r130 m130
 dsimp only
 by_cases hi:i< (b.length:Int)
 ·simp only[lenI_def,ltI_t hi,leI_t h0,cond_true]
  refine .ret ⟨_,_,rfl,⟨?_,hb⟩,by rw[bAnd_255];omega⟩
  show 0≤wI (i+1)∧wI (i+1)≤_
  rw[wI_id (by omega) (by omega)]
  omega
 ·simp only[lenI_def,ltI_f hi,cond_false]
  exact .ret ⟨_,_,rfl,⟨⟨h0,h1⟩,hb⟩,by rw[bAnd_255];omega⟩
theorem tmod_b {a n:Int} (ha:0≤a) (hn:0<n):0≤Int.tmod a n∧Int.tmod a n<n:=by
 rw[tmod_nn ha]
 exact ⟨Int.emod_nonneg _ (by omega),Int.emod_lt_of_pos _ hn⟩
theorem l1Below_ok {b:List Int} {t:CurT} (h:Cur b t) (n:Int):Ans (r57 ((b,t),(n,()))) (Dr b fun v:Int=>(0<n→0≤v∧v<n)∧(n≤0→v=0)):=by
 unfold r57 m57
 dsimp only
 by_cases h0:n≤0
 ·rw[leI_t h0,cond_true]
  exact .ret ⟨_,_,rfl,h,fun h1=>absurd h0 (by omega),fun _=>rfl⟩
 rw[leI_f h0,cond_false]
 by_cases h1:n≤256
 ·rw[leI_t h1,cond_true]
  refine (l1Byte_ok h).bind ?_
  rintro _ ⟨v,t1,rfl,hc,hv⟩
  rw[neI_t (by omega),cond_true]
  exact .ret ⟨_,_,rfl,hc,fun _=>tmod_b hv.1 (by omega),fun h2=>absurd h2 h0⟩
 ·rw[leI_f h1,cond_false]
  refine (l1Byte_ok h).bind ?_
  rintro _ ⟨x,t1,rfl,hc,hx⟩
  refine (l1Byte_ok hc).bind ?_
  rintro _ ⟨y,t2,rfl,hc,hy⟩
  refine (l1Byte_ok hc).bind ?_
  rintro _ ⟨z,t3,rfl,hc,hz⟩
  refine (l1Byte_ok hc).bind ?_
  rintro _ ⟨w,t4,rfl,hc,hw⟩
  dsimp only
  rw[neI_t (by omega),cond_true]
  have e:wI (wI (wI (wI (x*16777216)+wI (y*65536))+wI (z*256))+w)=x*16777216+y*65536+z*256+w:=by
   rw[wI_id (x:=x*16777216) (by omega) (by omega),wI_id (x:=y*65536) (by omega) (by omega),wI_id (x:=z*256) (by omega) (by omega),wI_id (x:=x*16777216+y*65536) (by omega) (by omega),
    wI_id (x:=x*16777216+y*65536+z*256) (by omega) (by omega),wI_id (by omega) (by omega)]
  rw[e]
  exact .ret ⟨_,_,rfl,hc,fun _=>tmod_b (by omega) (by omega),fun h2=>absurd h2 h0⟩
theorem l1Once_ok {b:List Int} {t:CurT} (h:Cur b t) (n:Int):Ans (r161 ((b,t),(n,()))) (Dr b fun _:Bool=>True):=by
 unfold r161 m161
 refine (l1Below_ok h n).bind ?_
 rintro _ ⟨v,t1,rfl,hc,hv⟩
 exact .ret ⟨_,_,rfl,hc,trivial⟩
theorem l1PickInt_ok {b:List Int} {t:CurT} (h:Cur b t) (l:List Int) (hl:0<l.length):Ans (r160 ((b,t),(l,()))) (Dr b fun v:Int=>v∈l):=by
 unfold r160 m160
 refine (l1Below_ok h (lenI l)).bind ?_
 rintro _ ⟨v,t1,rfl,hc,hv,_⟩
 rw[lenI_def]at hv
 obtain ⟨v0,v1⟩:=hv (by omega)
 dsimp only
 rw[leI_t v0,cond_true,lenI_def,ltI_t v1,cond_true]
 exact .ret ⟨_,_,rfl,hc,rdE_mem (e:= .i) v0 v1⟩
theorem l1Pick_ok {b:List Int} {t:CurT} (h:Cur b t) (l:List ByteArray) (hl:0<l.length):Ans (r242 ((b,t),(l,()))) (Dr b fun v:ByteArray=>v∈l):=by
 unfold r242 m242
 refine (l1Below_ok h (lenI l)).bind ?_
 rintro _ ⟨v,t1,rfl,hc,hv,_⟩
 rw[lenI_def]at hv
 obtain ⟨v0,v1⟩:=hv (by omega)
 dsimp only
 rw[leI_t v0,cond_true,lenI_def,ltI_t v1,cond_true]
 exact .ret ⟨_,_,rfl,hc,rdE_mem (e:= .s) v0 v1⟩
theorem l1DrawInt_ok {b:List Int} {t:CurT} (h:Cur b t):Ans (r118 ((b,t),())) (Dr b fun _:Int=>True):=by
 unfold r118 m118
 refine (l1Once_ok h 9).bind ?_
 rintro _ ⟨v,t1,rfl,hc,_⟩
 dsimp only
 cases v
 ·rw[cond_false]
  refine (l1Below_ok hc 256).bind ?_
  rintro _ ⟨v,t2,rfl,hc,_⟩
  exact .ret ⟨_,_,rfl,hc,trivial⟩
 ·rw[cond_true]
  refine (l1PickInt_ok hc _ (by decide)).bind ?_
  rintro _ ⟨v,t2,rfl,hc,_⟩
  exact .ret ⟨_,_,rfl,hc,trivial⟩
theorem l5DrawRight_ok {b:List Int} {t:CurT} (h:Cur b t):Ans (r213 ((b,t),())) (Dr b fun _:Tup cpuL=>True):=by
 unfold r213 m213
 refine (l1Below_ok h 256).bind ?_
 rintro _ ⟨a,t1,rfl,hc,_⟩
 refine (l1Below_ok hc 256).bind ?_
 rintro _ ⟨x,t2,rfl,hc,_⟩
 refine (l1PickInt_ok hc _ (by decide)).bind ?_
 rintro _ ⟨s,t3,rfl,hc,_⟩
 refine (l1PickInt_ok hc _ (by decide)).bind ?_
 rintro _ ⟨pc,t4,rfl,hc,_⟩
 refine (l1Below_ok hc 256).bind ?_
 rintro _ ⟨f,t5,rfl,hc,_⟩
 refine (Ans.of (specWithFlags_ok ⟨a,x,s,pc,false,false,false,false⟩ f)).bind ?_
 rintro _ rfl
 exact .ret ⟨_,_,rfl,hc,trivial⟩
theorem l5Draw_ok {b:List Int} {t:CurT} (h:Cur b t):Ans (r155 ((b,t),())) (Dr b fun _:Tup cpuL=>True):=by
 unfold r155 m155
 refine (l5DrawRight_ok h).bind ?_
 rintro _ ⟨a,t1,rfl,hc,_⟩
 refine (l1Below_ok hc 25).bind ?_
 rintro _ ⟨x,t2,rfl,hc,_⟩
 dsimp only
 have key: ∀{A:Type} (f:Int→Tup cpuL),Ans (r118 ((b,t2),())) (Dr b fun _:Int=>True):=fun _=>l1DrawInt_ok hc
 cases eqI x 0
 ·rw[cond_false]
  cases eqI x 1
  ·rw[cond_false]
   cases eqI x 2
   ·rw[cond_false]
    cases eqI x 3
    ·rw[cond_false]
     exact .ret ⟨_,_,rfl,hc,trivial⟩
    ·rw[cond_true]
     refine (l1PickInt_ok hc _ (by decide)).bind ?_
     rintro _ ⟨v,t3,rfl,hc,_⟩
     exact .ret ⟨_,_,rfl,hc,trivial⟩
   ·rw[cond_true]
    refine (l1DrawInt_ok hc).bind ?_
    rintro _ ⟨v,t3,rfl,hc,_⟩
    exact .ret ⟨_,_,rfl,hc,trivial⟩
  ·rw[cond_true]
   refine (l1DrawInt_ok hc).bind ?_
   rintro _ ⟨v,t3,rfl,hc,_⟩
   exact .ret ⟨_,_,rfl,hc,trivial⟩
 ·rw[cond_true]
  refine (l1DrawInt_ok hc).bind ?_
  rintro _ ⟨v,t3,rfl,hc,_⟩
  exact .ret ⟨_,_,rfl,hc,trivial⟩
theorem wI_b (x:Int):i64B (wI x):=by
 rw[wI_val]
 unfold i64B
 omega
theorem l4Digits_loop: ∀(j k:Nat) (n:Int) (s:ByteArray),n<10^j→n≤9223372036854775807→j<k→s.size+j≤100→Ans (n283_0 k () () (n,(s,()))) fun r=> ∃(n':Int) (s':ByteArray),r=(Sum.inl (n',(s',())),())∧s'.size≤100
 |_,0,_,_,_,_,h,_=>absurd h (by omega)
 |j,k+1,n,s,hn,hm,hk,hs=>by
  show Ans (bif ltI 0 n then _ else some (Sum.inl (n,(s,())),())) _
  by_cases h0:0<n
  ·rw[ltI_t h0,cond_true]
   have hj:0<j:=by
    rcases Nat.eq_zero_or_pos j with e|e
    ·subst e;simp at hn;omega
    ·exact e
   obtain ⟨j,rfl⟩: ∃i,j=i+1:=⟨j-1,by omega⟩
   rw[leN_t (show (strOf [wB (wI (48+Int.tmod n 10))]).size+s.size≤4611686018427387904 by show 1+s.size≤_;omega),cond_true]
   have e:wI (Int.tdiv n 10)=n/10:=by rw[tdiv_nn (by omega),wI_id (by omega) (by omega)]
   rw[e]
   refine l4Digits_loop j k (n/10) _ ?_ (by omega) (by omega) ?_
   ·rw[Int.pow_succ]at hn
    omega
   ·rw[ByteArray.size_append]
    show 1+s.size+j≤100
    omega
  ·rw[ltI_f h0,cond_false]
   exact .ret ⟨_,_,rfl,by omega⟩
theorem l4Digits_any (n:Int) (hn:i64B n):Ans (r283 (n,())) fun r=> ∃s:ByteArray,r=((s,()),())∧s.size≤100:=by
 unfold r283 m283
 dsimp only
 cases eqI n 0
 ·rw[cond_false]
  refine (l4Digits_loop 20 fuel n _ (by have:=hn.2;omega) hn.2 (by have:=fuel_big;omega) (by decide)).bind ?_
  rintro _ ⟨n',s',rfl,hs⟩
  exact .ret ⟨_,rfl,hs⟩
 ·rw[cond_true]
  exact .ret ⟨_,rfl,by decide⟩
theorem l4Num_loop (s:ByteArray) (hs:s.size≤1000): ∀(k:Nat) (x i:Int),0≤i→i≤(s.size:Int)→(s.size:Int)-i<k→i64B x→Ans (n280_0 r283 k (s,()) () (x,(i,()))) fun r=>(∃v:Int,r=(Sum.inr (v,()),()))∨ ∃x' i':Int,r=(Sum.inl (x',(i',())),())∧i64B x'
 |0,_,_,_,h1,h2,_=>absurd h2 (by omega)
 |k+1,x,i,h0,h1,h2,hx=>by
  show Ans (bif ltI i (s.size:Int)then _ else some (Sum.inl (x,(i,())),())) _
  by_cases hi:i< (s.size:Int)
  ·simp only[ltI_t hi,leI_t h0,cond_true]
   cases ltI (bt s i) 48
   ·rw[cond_false]
    cases ltI 57 (bt s i)
    ·rw[cond_false,wI_id (x:=i+1) (by omega) (by omega)]
     exact l4Num_loop s hs k _ _ (by omega) (by omega) (by omega) (wI_b _)
    ·rw[cond_true]
     exact .ret (.inl ⟨_,rfl⟩)
   ·rw[cond_true]
    exact .ret (.inl ⟨_,rfl⟩)
  ·rw[ltI_f hi,cond_false]
   exact .ret (.inr ⟨_,_,rfl,hx⟩)
theorem l4Num_any (s:ByteArray):Ans (r280 (s,())) fun r=> ∃v:Int,r=((v,()),()):=by
 unfold r280 m280
 dsimp only
 cases (s.toList==(bz []).toList)
 ·rw[cond_false]
  by_cases h5:5< (s.size:Int)
  ·rw[ltI_t h5,cond_true]
   exact .ret ⟨_,rfl⟩
  ·rw[ltI_f h5,cond_false]
   refine (l4Num_loop s (by omega) fuel 0 0 (by omega) (by omega) (by have:=fuel_big;omega) (by unfold i64B;omega)).bind ?_
   rintro _ (⟨v,rfl⟩| ⟨x,i,rfl,hx⟩)
   ·exact .ret ⟨_,rfl⟩
   ·refine (l4Digits_any x hx).bind ?_
    rintro _ ⟨d,rfl,_⟩
    dsimp only
    cases (!(d.toList==s.toList))
    ·rw[cond_false];exact .ret ⟨_,rfl⟩
    ·rw[cond_true];exact .ret ⟨_,rfl⟩
 ·rw[cond_true]
  exact .ret ⟨_,rfl⟩
theorem l4Line_loop (s:ByteArray) (hs:s.size≤1000000): ∀(k:Nat) (i:Int),0≤i→i≤(s.size:Int)→(s.size:Int)-i<k→Ans (n266_0 r280 k (s,()) () (i,())) fun r=>(∃i':Int,r=(Sum.inl (i',()),()))∨ ∃(w:ByteArray) (n:Int) (o:Bool),r=(Sum.inr (w,(n,(o,()))),())
 |0,_,_,h1,h2=>absurd h2 (by omega)
 |k+1,i,h0,h1,h2=>by
  show Ans (bif ltI i (s.size:Int)then _ else some (Sum.inl (i,()),())) _
  by_cases hi:i< (s.size:Int)
  ·simp only[ltI_t hi,leI_t h0,cond_true]
   rw[wI_id (x:=i+1) (by omega) (by omega)]
   cases eqI (bt s i) 32
   ·rw[cond_false]
    exact l4Line_loop s hs k _ (by omega) (by omega) (by omega)
   ·rw[cond_true,leI_t (by omega),cond_true,leI_t (by omega),cond_true]
    refine (l4Num_any _).bind ?_
    rintro _ ⟨v,rfl⟩
    rw[leI_t (show i≤(s.size:Int) by omega),cond_true]
    exact .ret (.inr ⟨_,_,_,rfl⟩)
  ·rw[ltI_f hi,cond_false]
   exact .ret (.inl ⟨_,rfl⟩)
theorem l4Line_any (s:ByteArray) (hs:s.size≤1000000):Ans (r266 (s,())) fun r=> ∃(w:ByteArray) (n:Int) (o:Bool),r=((w,(n,(o,()))),()):=by
 unfold r266 m266
 refine (l4Line_loop s hs fuel 0 (by omega) (by omega) (by have:=fuel_big;omega)).bind ?_
 rintro _ (⟨v,rfl⟩| ⟨w,n,o,rfl⟩)
 ·exact .ret ⟨_,_,_,rfl⟩
 ·exact .ret ⟨_,_,_,rfl⟩
theorem opOf_loop (s:ByteArray) (l:List ByteArray) (hl:l.length≤30): ∀(k:Nat) (i:Int),0≤i→i≤(l.length:Int)→(l.length:Int)-i<k→Ans (n267_0 r281 k (s,(l,())) () (i,())) fun r=>(∃i':Int,r=(Sum.inl (i',()),()))∨ ∃v:Int,r=(Sum.inr (v,()),())∧0≤v∧v≤29
 |0,_,_,h1,h2=>absurd h2 (by omega)
 |k+1,i,h0,h1,h2=>by
  show Ans (bif ltI i (lenI l)then _ else some (Sum.inl (i,()),())) _
  by_cases hi:i< (l.length:Int)
  ·simp only[lenI_def,ltI_t hi,leI_t h0,cond_true]
   cases ((rdE .s l i).toList==s.toList)
   ·rw[cond_false,wI_id (x:=i+1) (by omega) (by omega)]
    exact opOf_loop s l hl k _ (by omega) (by omega) (by omega)
   ·rw[cond_true]
    exact .ret (.inr ⟨_,rfl,h0,by omega⟩)
  ·rw[lenI_def,ltI_f hi,cond_false]
   exact .ret (.inl ⟨_,rfl⟩)
theorem opOf_any (s:ByteArray):Ans (r267 (s,())) fun r=> ∃v:Int,r=((v,()),())∧(v= -1∨0≤v∧v≤29):=by
 unfold r267 m267
 have hn:Ans (r281 ()) fun r=> ∃l:List ByteArray,r=((l,()),())∧l.length=30:=⟨_,rfl,_,rfl,rfl⟩
 refine hn.bind ?_
 rintro _ ⟨l,rfl,hl⟩
 refine (opOf_loop s l (by omega) fuel 0 (by omega) (by omega) (by have:=fuel_big;omega)).bind ?_
 rintro _ (⟨v,rfl⟩| ⟨v,rfl,hv⟩)
 ·exact .ret ⟨_,rfl, .inl rfl⟩
 ·exact .ret ⟨_,rfl, .inr hv⟩
theorem bytes_nil:BytesP []:=fun n hn=>by cases hn
theorem bytes_cons {a:Int} {l:List Int} (ha:0≤a∧a≤255) (h:BytesP l):BytesP (a::l):=fun n hn=>by
 cases hn with
 |head=>exact ha
 |tail _ hn=>exact h n hn
theorem bytes_set {l:List Int} (h:BytesP l) (i:Nat) {v:Int} (hv:0≤v∧v≤255):BytesP (l.set i v):=fun n hn=>by
 rcases List.mem_or_eq_of_mem_set hn with h1|h1
 ·exact h n h1
 ·rw[h1];exact hv
theorem l4Bytes_any (s:ByteArray) (hs:s.size≤1000000):Ans (r241 (s,())) fun r=> ∃(l:List Int) (n:Int) (o:Bool),r=((l,(n,(o,()))),())∧BytesP l∧l.length≤3:=by
 unfold r241 m241
 refine (l4Line_any s hs).bind ?_
 rintro _ ⟨w,n,o,rfl⟩
 dsimp only
 have none': ∀(n:Int) (o:Bool),Ans (some ((([]:List Int),(n,(o,()))),())) fun r=> ∃(l:List Int) (n:Int) (o:Bool),r=((l,(n,(o,()))),())∧BytesP l∧l.length≤3:=fun _ _=> .ret ⟨_,_,_,rfl,bytes_nil,by decide⟩
 cases o
 ·rw[Bool.not_false,cond_true];exact none' _ _
 rw[Bool.not_true,cond_false]
 have place: ∀q:Bool,Ans ((r116 (n,((0:Int),((255:Int),())))).bind fun r1=>bif !r1.1.1 then some (([],(-(1:Int),(false,()))),())else bif q then some (([],(n,(true,()))),())else some ((n::[],(-(1:Int),(true,()))),())) fun r=> ∃(l:List Int) (n:Int) (o:Bool),r=((l,(n,(o,()))),())∧BytesP l∧l.length≤3:=fun q=>by
  rw[l1In_ok,Option.bind_some]
  dsimp only
  cases hr:inR 0 255 n
  ·rw[Bool.not_false,cond_true];exact none' _ _
  ·rw[Bool.not_true,cond_false]
   cases q
   ·rw[cond_false];exact .ret ⟨_,_,_,rfl,bytes_cons (inR_iff.1 hr) bytes_nil,by simp⟩
   ·rw[cond_true];exact none' _ _
 cases (w.toList==(bz [97,116]).toList)
 ·rw[cond_false]
  cases (w.toList==(bz [98,121,116,101]).toList)
  ·rw[cond_false]
   refine (opOf_any w).bind ?_
   rintro _ ⟨op,rfl,hop⟩
   dsimp only
   by_cases h0:op<0
   ·rw[ltI_t h0,cond_true];exact none' _ _
   ·rw[ltI_f h0,cond_false]
    have hop:0≤op∧op≤255:=by omega
    refine (Ans.of (specOpLen_ok (op,()))).bind ?_
    rintro _ rfl
    dsimp only
    cases eqI (opLenN op) 1
    ·rw[cond_false]
     cases eqI (opLenN op) 2
     ·rw[cond_false]
      refine (Ans.of (specByte_ok (n,()))).bind ?_
      rintro _ rfl
      refine (Ans.of (specByte_ok (_,()))).bind ?_
      rintro _ rfl
      refine (Ans.of (l1In_ok _)).bind ?_
      rintro _ rfl
      exact .ret ⟨_,_,_,rfl,bytes_cons hop (bytes_cons (mod256 _) (bytes_cons (mod256 _) bytes_nil)),by simp⟩
     ·rw[cond_true]
      refine (Ans.of (specByte_ok (n,()))).bind ?_
      rintro _ rfl
      refine (Ans.of (l1In_ok _)).bind ?_
      rintro _ rfl
      exact .ret ⟨_,_,_,rfl,bytes_cons hop (bytes_cons (mod256 _) bytes_nil),by simp⟩
    ·rw[cond_true]
     exact .ret ⟨_,_,_,rfl,bytes_cons hop bytes_nil,by simp⟩
  ·rw[cond_true]
   exact place _
 ·rw[cond_true]
  exact place _
theorem asm_put (l:List Int) (hl:BytesP l) (hl3:l.length≤3): ∀(k:Nat) (a i:Int) (out:List Int),0≤i→i≤(l.length:Int)→(l.length:Int)-i<k→out.length=256→BytesP out→
  Ans (n200_0 r215 r241 k (l,()) () (a,(i,(out,())))) fun r=> ∃(a' i':Int) (out':List Int),r=(Sum.inl (a',(i',(out',()))),())∧out'.length=256∧BytesP out'
 |0,_,_,_,_,h1,h2,_,_=>absurd h2 (by omega)
 |k+1,a,i,out,h0,h1,h2,ho,hb=>by
  show Ans (bif ltI i (lenI l)then _ else some (Sum.inl (a,(i,(out,()))),())) _
  by_cases hi:i< (l.length:Int)
  ·rw[lenI_def,ltI_t hi,cond_true]
   refine (Ans.of (specByte_ok (a,()))).bind ?_
   rintro _ rfl
   have hm:=mod256 a
   dsimp only
   simp only[leI_t h0,cond_true,leI_t hm.1]
   rw[lenI_def,ho,ltI_t (by omega),cond_true,wI_id (x:=i+1) (by omega) (by omega)]
   exact asm_put l hl hl3 k _ _ _ (by omega) (by omega) (by omega) (by rw[List.length_set];exact ho) (bytes_set hb _ (hl _ (rdE_mem (e:= .i) h0 hi)))
  ·rw[lenI_def,ltI_f hi,cond_false]
   exact .ret ⟨_,_,_,rfl,ho,hb⟩
theorem asm_loop (s:ByteArray) (hs:s.size≤3000): ∀(k:Nat) (a f m i:Int) (out:List Int),0≤f→f≤i→i≤(s.size:Int)+1→(s.size:Int)+1-i<k→out.length=256→BytesP out→
  Ans (n200_1 r215 r241 L200_0 k (s,()) () (a,(f,(m,(i,(out,())))))) fun r=>(∃(a' f' m' i':Int) (out':List Int),r=(Sum.inl (a',(f',(m',(i',(out',()))))),())∧out'.length=256∧BytesP out')∨ ∃c:Int,r=(Sum.inr ([],(c,())),())
 |0,_,_,_,_,_,_,_,h1,h2,_,_=>absurd h2 (by omega)
 |k+1,a,f,m,i,out,h0,hf,h1,h2,ho,hb=>by
  unfold n200_1 w200_1
  dsimp only
  by_cases hi:i≤(s.size:Int)
  ·have i0:0≤i:=by omega
   have e1:wI (i+1)=i+1:=wI_id (by omega) (by omega)
   simp only[leI_t hi,leI_t i0,leI_t h0,leI_t hf,cond_true,e1]
   have skip:Ans (n200_1 r215 r241 L200_0 k (s,()) () (a,(f,(m,(i+1,(out,())))))) fun r=>(∃(a' f' m' i':Int) (out':List Int),r=(Sum.inl (a',(f',(m',(i',(out',()))))),())∧out'.length=256∧BytesP out')∨ ∃c:Int,r=(Sum.inr ([],(c,())),()):=
    asm_loop s hs k a f m (i+1) out h0 (by omega) (by omega) (by omega) ho hb
   have put: ∀(a:Int) (l:List Int),BytesP l→l.length≤3→Ans ((L200_0 (l,()) () (a,((0:Int),(out,())))).bind fun r1=>sumElim r1.1 (fun r2=>n200_1 r215 r241 L200_0 k (s,()) () (r2.1,(i+1,(wI (m+1),(i+1,r2.2.2))))) fun r2=>none) fun r=>(∃(a' f' m' i':Int) (out':List Int),r=(Sum.inl (a',(f',(m',(i',(out',()))))),())∧out'.length=256∧BytesP out')∨ ∃c:Int,r=(Sum.inr ([],(c,())),()):=fun a l hl hl3=>by
    refine (asm_put l hl hl3 fuel a 0 out (by omega) (by omega) (by have:=fuel_big;omega) ho hb).bind ?_
    rintro _ ⟨a',i',out',rfl,ho',hb'⟩
    exact asm_loop s hs k a' (i+1) (wI (m+1)) (i+1) out' (by omega) (by omega) (by omega) (by omega) ho' hb'
   have line:Ans (bif ((s.extract f.toNat i.toNat).toList==(bz []).toList)then n200_1 r215 r241 L200_0 k (s,()) () (a,(i+1,(wI (m+1),(i+1,(out,())))))else (r241 (s.extract f.toNat i.toNat,())).bind fun r0=>bif !r0.1.2.2.1 then some (Sum.inr ([],(wI (m+1),())),())else bif leI 0 r0.1.2.1 then (L200_0 (r0.1.1,()) () (r0.1.2.1,((0:Int),(out,())))).bind fun r1=>sumElim r1.1 (fun r2=>n200_1 r215 r241 L200_0 k (s,()) () (r2.1,(i+1,(wI (m+1),(i+1,r2.2.2))))) fun r2=>none
     else (L200_0 (r0.1.1,()) () (a,((0:Int),(out,())))).bind fun r1=>sumElim r1.1 (fun r2=>n200_1 r215 r241 L200_0 k (s,()) () (r2.1,(i+1,(wI (m+1),(i+1,r2.2.2))))) fun r2=>none) fun r=>(∃(a' f' m' i':Int) (out':List Int),r=(Sum.inl (a',(f',(m',(i',(out',()))))),())∧out'.length=256∧BytesP out')∨ ∃c:Int,r=(Sum.inr ([],(c,())),()):=by
    cases ((s.extract f.toNat i.toNat).toList==(bz []).toList)
    ·rw[cond_false]
     refine (l4Bytes_any _ (by rw[ByteArray.size_extract];omega)).bind ?_
     rintro _ ⟨l,n,o,rfl,hl,hl3⟩
     dsimp only
     cases o
     ·rw[Bool.not_false,cond_true];exact .ret (.inr ⟨_,rfl⟩)
     ·rw[Bool.not_true,cond_false]
      cases leI 0 n
      ·rw[cond_false];exact put _ _ hl hl3
      ·rw[cond_true];exact put _ _ hl hl3
    ·rw[cond_true]
     exact asm_loop s hs k a (i+1) (wI (m+1)) (i+1) out (by omega) (by omega) (by omega) (by omega) ho hb
   by_cases hi2:i< (s.size:Int)
   ·simp only[ltI_t hi2,cond_true,eqI_f (show i≠(s.size:Int) by omega),cond_false]
    cases neI (bt s i) 10
    ·rw[cond_false];exact line
    ·rw[cond_true];exact skip
   ·simp only[ltI_f hi2,cond_false,eqI_t (show i=(s.size:Int) by omega),cond_true]
    cases eqI f (s.size:Int)
    ·rw[cond_false];exact line
    ·rw[cond_true];exact skip
  ·simp only[leI_f hi,cond_false]
   exact .ret (.inl ⟨_,_,_,_,_,rfl,ho,hb⟩)
theorem bytes_rep (n:Nat):BytesP (List.replicate n 0):=fun x hx=>by rw[(List.mem_replicate.1 hx).2];decide
theorem assemble_any (s:ByteArray):Ans (r200 (s,())) fun r=> ∃(l:List Int) (c:Int),r=((l,(c,())),())∧BytesP l:=by
 unfold r200 m200
 dsimp only
 by_cases h:3000< (s.size:Int)
 ·rw[ltI_t h,cond_true];exact .ret ⟨_,_,rfl,bytes_nil⟩
 ·rw[ltI_f h,cond_false]
  refine (asm_loop s (by omega) fuel 0 0 0 0 (List.replicate 256 0) (by omega) (by omega) (by omega) (by have:=fuel_big;omega) (List.length_replicate ..) (bytes_rep _)).bind ?_
  rintro _ (⟨a,f,m,i,out,rfl,ho,hb⟩| ⟨c,rfl⟩)
  ·exact .ret ⟨_,_,rfl,hb⟩
  ·exact .ret ⟨_,_,rfl,bytes_nil⟩
theorem l2Main_ok {b:List Int} {t:CurT} (h:Cur b t):Ans (r201 ((b,t),())) (Dr b fun v:ByteArray=>v.size≤400):=by
 unfold r201 m201
 refine (l1Pick_ok h _ (by decide)).bind ?_
 rintro _ ⟨v,t1,rfl,hc,hv⟩
 have hv:ByteArray.size v≤200:=by
  revert hv
  revert v
  decide+kernel
 dsimp only
 generalize hz:(bz _)=z
 have hz:z.size≤200:=by rw[←hz];decide+kernel
 rw[leN_t (show ByteArray.size v+z.size≤4611686018427387904 by omega),cond_true]
 refine .ret ⟨_,_,rfl,hc,?_⟩
 show ByteArray.size (v++z)≤400
 rw[ByteArray.size_append]
 omega
theorem l2DrawBank_loop {b:List Int}: ∀(k:Nat) (i:Int) (out:List Int) (t:CurT),Cur b t→0≤i→i≤256→256-i<k→out.length=256→BytesP out→
  Ans (n199_0 r57 r160 k () ((b,t),()) (i,(out,()))) fun r=> ∃(i':Int) (out':List Int) (t':CurT),r=(Sum.inl (i',(out',())),((b,t'),()))∧Cur b t'∧out'.length=256∧BytesP out'
 |0,_,_,_,_,_,h1,h2,_,_=>absurd h2 (by omega)
 |k+1,i,out,t,h,h0,h1,h2,ho,hb=>by
  show Ans (bif ltI i 256 then _ else some (Sum.inl (i,(out,())),((b,t),()))) _
  by_cases hi:i<256
  ·rw[ltI_t hi,cond_true]
   refine (l1Below_ok h 4).bind ?_
   rintro _ ⟨q,t1,rfl,hc,_⟩
   have e1:wI (i+1)=i+1:=wI_id (by omega) (by omega)
   have e2:ltI i (lenI out)=true:=ltI_t (by rw[lenI_def,ho];exact hi)
   dsimp only
   simp only[leI_t h0,e1,e2,cond_true]
   cases eqI q 0
   ·rw[cond_false]
    cases eqI q 1
    ·rw[cond_false]
     cases eqI q 2
     ·rw[cond_false]
      exact l2DrawBank_loop k _ _ _ hc (by omega) (by omega) (by omega) ho hb
     ·rw[cond_true]
      refine (l1Below_ok hc 256).bind ?_
      rintro _ ⟨(v:Int),t2,rfl,hc,hv,_⟩
      exact l2DrawBank_loop k _ _ _ hc (by omega) (by omega) (by omega) (by rw[List.length_set];exact ho) (bytes_set hb _ (show 0≤v∧v≤255 by have:=hv (by decide);omega))
    ·rw[cond_true]
     refine (l1PickInt_ok hc _ (by decide)).bind ?_
     rintro _ ⟨v,t2,rfl,hc,hv⟩
     have hv:0≤v∧v≤255:=by
      revert hv
      revert v
      decide
     exact l2DrawBank_loop k _ _ _ hc (by omega) (by omega) (by omega) (by rw[List.length_set];exact ho) (bytes_set hb _ hv)
   ·rw[cond_true]
    refine (l1Below_ok hc 30).bind ?_
    rintro _ ⟨(v:Int),t2,rfl,hc,hv,_⟩
    exact l2DrawBank_loop k _ _ _ hc (by omega) (by omega) (by omega) (by rw[List.length_set];exact ho) (bytes_set hb _ (show 0≤v∧v≤255 by have:=hv (by decide);omega))
  ·rw[ltI_f hi,cond_false]
   exact .ret ⟨_,_,_,rfl,h,ho,hb⟩
theorem l2DrawBank_ok {b:List Int} {t:CurT} (h:Cur b t):Ans (r199 ((b,t),())) (Dr b fun v:List Int=>v.length=256∧BytesP v):=by
 unfold r199 m199
 refine (l2DrawBank_loop fuel 0 (List.replicate 256 0) t h (by omega) (by omega) (by have:=fuel_big;omega) (List.length_replicate ..) (bytes_rep _)).bind ?_
 rintro _ ⟨i,out,t',rfl,hc,ho,hb⟩
 exact .ret ⟨_,_,rfl,hc,ho,hb⟩
def BanksP (f:List (List Int)):Prop:= ∀l,l∈f→l.length=256∧BytesP l
theorem banks_set {f:List (List Int)} (h:BanksP f) (i:Nat) {l:List Int} (hl:l.length=256∧BytesP l):BanksP (f.set i l):=fun x hx=>by
 rcases List.mem_or_eq_of_mem_set hx with h1|h1
 ·exact h x h1
 ·rw[h1];exact hl
theorem l2Banks_loop {b:List Int} (n:Int) (hn:n≤3): ∀(k:Nat) (i:Int) (f:List (List Int)) (t:CurT),Cur b t→0≤i→i≤n→n-i<k→(f.length:Int)=i→BanksP f→
  Ans (n129_0 r200 r57 r161 r199 r201 k (n,()) ((b,t),((f,()),())) (i,())) fun r=> ∃(i':Int) (f':List (List Int)) (t':CurT),r=(Sum.inl (i',()),((b,t'),((f',()),())))∧Cur b t'∧(f'.length:Int)=n∧BanksP f'
 |0,_,_,_,_,_,h1,h2,_,_=>absurd h2 (by omega)
 |k+1,i,f,t,h,h0,h1,h2,hl,hb=>by
  show Ans (bif ltI i n then _ else some (Sum.inl (i,()),((b,t),((f,()),())))) _
  by_cases hi:i<n
  ·rw[ltI_t hi,cond_true]
   refine (l2DrawBank_ok h).bind ?_
   rintro _ ⟨q,t1,rfl,hc,hq⟩
   dsimp only
   rw[leN_t (show f.length+[q].length≤E.most .n by show f.length+1≤5864062014805;omega),cond_true,wI_id (x:=i+1) (by omega) (by omega)]
   refine l2Banks_loop n hn k (i+1) (f++[q]) _ hc (by omega) (by omega) (by omega) (by rw[List.length_append,List.length_singleton];omega) fun l hl=> ?_
   rcases List.mem_append.1 hl with h3|h3
   ·exact hb l h3
   ·rw[List.mem_singleton.1 h3];exact hq
  ·rw[ltI_f hi,cond_false]
   exact .ret ⟨_,_,_,rfl,h,by omega,hb⟩
theorem vec1_ok {R:Type} {f:List (List Int)} {i:Nat} {j v:Int} {K:List (List Int)→Option R} {P:R→Prop} (hi:i<f.length) (hb:BanksP f) (hj:0≤j∧j<256) (hv:0≤v∧v≤255) (hK: ∀g:List (List Int),g.length=f.length→BanksP g→Ans (K g) P):Ans (vec1 f (i:Int) j v K) P:=by
 unfold vec1
 have e:rdE .n f (i:Int)=f[i]:=rdE_nat .n f i hi
 obtain ⟨h1,h2⟩:=hb f[i] (List.getElem_mem hi)
 rw[show ltI j (lenI (rdE .n f (i:Int)))=true from ltI_t (by rw[lenI_def,e];omega),cond_true]
 exact hK _ (List.length_set ..) (banks_set hb _ ⟨by rw[List.length_set,e];exact h1,bytes_set (by rw[e];exact h2) _ hv⟩)
theorem vecs6_ok {R:Type} {f:List (List Int)} {i:Nat} {K:List (List Int)→Option R} {P:R→Prop} (hi:i<f.length) (hb:BanksP f) (hK: ∀g:List (List Int),g.length=f.length→BanksP g→Ans (K g) P):Ans (vecs6 f (i:Int) K) P:=by
 unfold vecs6
 rw[leI_t (by omega),cond_true,lenI_def,ltI_t (by omega),cond_true]
 refine vec1_ok hi hb (by omega) (by omega) fun g e1 hb=>vec1_ok (by omega) hb (by omega) (by omega) fun g e2 hb=>vec1_ok (by omega) hb (by omega) (by omega) fun g e3 hb=>vec1_ok (by omega) hb (by omega) (by omega) fun g e4 hb=>vec1_ok (by omega) hb (by omega) (by omega) fun g e5 hb=>vec1_ok (by omega) hb (by omega) (by omega) fun g e6 hb=>hK g (by omega) hb
theorem l2DrawRight_ok {b:List Int} {t:CurT} (h:Cur b t):Ans (r129 ((b,t),())) (Dr b fun v:Tup [.sl true .n]=>ImgP v.1∧v.1.length≤3):=by
 unfold r129 m129
 refine (l1Below_ok h 3).bind ?_
 rintro _ ⟨v,t1,rfl,hc,hv,_⟩
 have hv:=hv (by decide)
 have e1:wI (1+v)=1+v:=wI_id (by omega) (by omega)
 dsimp only
 rw[e1]
 refine (l2Banks_loop (1+v) (by omega) fuel 0 [] t1 hc (by omega) (by omega) (by have:=fuel_big;omega) rfl (fun l hl=>by cases hl)).bind ?_
 rintro _ ⟨i,f,t2,rfl,hc,hf,hb⟩
 have e2:wI (1+v-1)=(v.toNat:Int):=by rw[wI_id (by omega) (by omega)];omega
 dsimp only[sumElim]
 rw[e2]
 have fin: ∀(g:List (List Int)) (t3:CurT),g.length=f.length→BanksP g→Cur b t3→Ans (some (((g,()),()),((b,t3),()))) (Dr b fun v:Tup [.sl true .n]=>ImgP v.1∧v.1.length≤3):=fun g t3 hg hb hc=>
  .ret ⟨(g,()),t3,rfl,hc,⟨hb,by show 1≤g.length;omega,by show g.length≤8;omega⟩,by show g.length≤3;omega⟩
 refine (l1Once_ok hc 4).bind ?_
 rintro _ ⟨o,t3,rfl,hc,_⟩
 dsimp only
 cases o
 ·rw[Bool.not_false,cond_true]
  refine (l2Main_ok hc).bind ?_
  rintro _ ⟨s,t4,rfl,hc,hs⟩
  refine (assemble_any s).bind ?_
  rintro _ ⟨l,c,rfl,hl⟩
  dsimp only
  by_cases h256:(l.length:Int)=256
  ·rw[lenI_def,eqI_t h256,cond_true,leI_t (by omega),cond_true,lenI_def,ltI_t (by omega),cond_true]
   refine vecs6_ok (by rw[List.length_set];omega) (banks_set hb _ ⟨by omega,hl⟩) fun g hg hb=>fin g _ (by rw[hg,List.length_set]) hb hc
  ·rw[lenI_def,eqI_f h256,cond_false]
   exact vecs6_ok (by omega) hb fun g hg hb=>fin g _ hg hb hc
 ·rw[Bool.not_true,cond_false]
  exact vecs6_ok (by omega) hb fun g hg hb=>fin g _ hg hb hc
theorem pads_app {p:List Int} {v:Int} (h:BytesP p) (hv:0≤v∧v≤255):BytesP (p++[v]):=fun x hx=>by
 rcases List.mem_append.1 hx with h3|h3
 ·exact h x h3
 ·rw[List.mem_singleton.1 h3];exact hv
theorem upAT (l:LockM):(m2 (m2 (m2 (m2 (m2 (m2 (m2 (m2 (m2 (m2 (m2 (m2 (m2 (m2 (m2 (m2 (m2 (m2 (m2 (m2 (fun p=>(wI (p.1+1),p.2))))))))))))))))))))) l.t:Tup lockL)={l with apu:={l.apu with T:=wI (l.apu.T+1)}}.t:=by
 obtain ⟨img,pads,⟨ram,bank⟩,⟨ca,cx,cs,cpc,cz,cn,cc,ci⟩,⟨pT,pc,ps,pa,pp,pb,ptb,pds⟩,⟨sT,sp,sc,sb,sl,sa,si⟩,⟨held,shift⟩,nmi,steps,frames,samples,reads⟩:=l
 rfl
theorem upSteps (l:LockM):(m2 (m2 (m2 (m2 (m2 (m2 (m2 (m2 (m2 (m2 (m2 (m2 (m2 (m2 (m2 (m2 (m2 (m2 (m2 (m2 (m2 (m2 (m2 (m2 (m2 (m2 (m2 (m2 (m2 (m2 (fun p=>(-(1:Int),p.2))))))))))))))))))))))))))))))) l.t:Tup lockL)={l with steps:= -1}.t:=by
 obtain ⟨img,pads,⟨ram,bank⟩,⟨ca,cx,cs,cpc,cz,cn,cc,ci⟩,⟨pT,pc,ps,pa,pp,pb,ptb,pds⟩,⟨sT,sp,sc,sb,sl,sa,si⟩,⟨held,shift⟩,nmi,steps,frames,samples,reads⟩:=l
 rfl
theorem upSam (l:LockM):(m2 (m2 (m2 (m2 (m2 (m2 (m2 (m2 (m2 (m2 (m2 (m2 (m2 (m2 (m2 (m2 (m2 (m2 (m2 (m2 (m2 (m2 (m2 (m2 (m2 (m2 (m2 (m2 (m2 (m2 (m2 (m2 (fun p=>(p.1++[(0:Int)],p.2))))))))))))))))))))))))))))))))) l.t:Tup lockL)={l with samples:=l.samples++[0]}.t:=by
 obtain ⟨img,pads,⟨ram,bank⟩,⟨ca,cx,cs,cpc,cz,cn,cc,ci⟩,⟨pT,pc,ps,pa,pp,pb,ptb,pds⟩,⟨sT,sp,sc,sb,sl,sa,si⟩,⟨held,shift⟩,nmi,steps,frames,samples,reads⟩:=l
 rfl
theorem upFr (l:LockM):(m2 (m2 (m2 (m2 (m2 (m2 (m2 (m2 (m2 (m2 (m2 (m2 (m2 (m2 (m2 (m2 (m2 (m2 (m2 (m2 (m2 (m2 (m2 (m2 (m2 (m2 (m2 (m2 (m2 (m2 (m2 (fun p=>(p.1++[[(1:Int)]],p.2)))))))))))))))))))))))))))))))) l.t:Tup lockL)={l with frames:=l.frames++[[1]]}.t:=by
 obtain ⟨img,pads,⟨ram,bank⟩,⟨ca,cx,cs,cpc,cz,cn,cc,ci⟩,⟨pT,pc,ps,pa,pp,pb,ptb,pds⟩,⟨sT,sp,sc,sb,sl,sa,si⟩,⟨held,shift⟩,nmi,steps,frames,samples,reads⟩:=l
 rfl
theorem upLCpu (l:LockM) (c:Tup cpuL):(m2 (m2 (m2 (m2 (cpuAt c)))) l.t:Tup lockL)={l with cpu:=cpuM c}.t:=by
 obtain ⟨img,pads,⟨ram,bank⟩,⟨ca,cx,cs,cpc,cz,cn,cc,ci⟩,⟨pT,pc,ps,pa,pp,pb,ptb,pds⟩,⟨sT,sp,sc,sb,sl,sa,si⟩,⟨held,shift⟩,nmi,steps,frames,samples,reads⟩:=l
 rfl
theorem upLNmi (l:LockM):(m2 (m2 (m2 (m2 (m2 (m2 (m2 (m2 (m2 (m2 (m2 (m2 (m2 (m2 (m2 (m2 (m2 (m2 (m2 (m2 (m2 (m2 (m2 (m2 (m2 (m2 (m2 (m2 (m2 (fun p=>(true,p.2)))))))))))))))))))))))))))))) l.t:Tup lockL)={l with nmi:=true}.t:=by
 obtain ⟨img,pads,⟨ram,bank⟩,⟨ca,cx,cs,cpc,cz,cn,cc,ci⟩,⟨pT,pc,ps,pa,pp,pb,ptb,pds⟩,⟨sT,sp,sc,sb,sl,sa,si⟩,⟨held,shift⟩,nmi,steps,frames,samples,reads⟩:=l
 rfl
theorem upIrq (l:LockM):(m2 (m2 (m2 (m2 (m2 (m2 (m2 (m2 (m2 (m2 (m2 (fun p=>(false,m2 (m2 (m2 (m2 (m2 (m2 (m2 (m2 (m2 (m2 (m2 (m2 (m2 (m2 (fun p=>(true,p.2))))))))))))))) p.2)))))))))))) l.t:Tup lockL)={l with apu:={l.apu with irq:=true},cpu:={l.cpu with i:=false}}.t:=by
 obtain ⟨img,pads,⟨ram,bank⟩,⟨ca,cx,cs,cpc,cz,cn,cc,ci⟩,⟨pT,pc,ps,pa,pp,pb,ptb,pds⟩,⟨sT,sp,sc,sb,sl,sa,si⟩,⟨held,shift⟩,nmi,steps,frames,samples,reads⟩:=l
 rfl
theorem upShift (l:LockM):(m2 (m2 (m2 (m2 (m2 (m2 (m2 (m2 (m2 (m2 (m2 (m2 (m2 (m2 (m2 (m2 (m2 (m2 (m2 (m2 (m2 (m2 (m2 (m2 (m2 (m2 (m2 (m2 (fun p=>((256:Int),p.2))))))))))))))))))))))))))))) l.t:Tup lockL)={l with pad:={l.pad with shift:=256}}.t:=by
 obtain ⟨img,pads,⟨ram,bank⟩,⟨ca,cx,cs,cpc,cz,cn,cc,ci⟩,⟨pT,pc,ps,pa,pp,pb,ptb,pds⟩,⟨sT,sp,sc,sb,sl,sa,si⟩,⟨held,shift⟩,nmi,steps,frames,samples,reads⟩:=l
 rfl
theorem szL_iff (l:LockM):lockOkS l.t↔(small l.img∧l.pads.length≤4398046511104∧l.mem.ram.length≤4398046511104∧ppuOkS l.ppu.t∧small l.frames∧l.samples.length≤4398046511104∧l.reads.length≤4398046511104):=Iff.rfl
theorem lockPads_loop {b:List Int}: ∀(k:Nat) (i:Int) (p:List Int) (t:CurT),Cur b t→0≤i→i≤3→3-i<k→(p.length:Int)=i→BytesP p→
  Ans (n154_0 r48 r95 r57 r129 k () ((b,t),()) (p,(i,()))) fun r=> ∃(i':Int) (p':List Int) (t':CurT),r=(Sum.inl (p',(i',())),((b,t'),()))∧Cur b t'∧PadsP p'
 |0,_,_,_,_,_,h1,h2,_,_=>absurd h2 (by omega)
 |k+1,i,p,t,h,h0,h1,h2,hl,hb=>by
  unfold n154_0 w154_0
  refine (l1Below_ok h 4).bind ?_
  rintro _ ⟨(v:Int),t1,rfl,hc,hv,_⟩
  have hv:=hv (by decide)
  dsimp only
  by_cases hi:i<v
  ·rw[ltI_t hi,cond_true]
   refine (l1Below_ok hc 256).bind ?_
   rintro _ ⟨(w:Int),t2,rfl,hc,hw,_⟩
   have hw:=hw (by decide)
   dsimp only
   rw[leN_t (show p.length+[w].length≤E.most .i by show p.length+1≤17592186044416;omega),cond_true,wI_id (x:=i+1) (by omega) (by omega)]
   exact lockPads_loop k (i+1) _ _ hc (by omega) (by omega) (by omega) (by rw[List.length_append,List.length_singleton];omega) (pads_app hb (by omega))
  ·rw[ltI_f hi,cond_false]
   exact .ret ⟨_,_,_,rfl,hc,⟨by omega,hb⟩⟩
theorem l12DrawRight_ok {b:List Int} {t:CurT} (h:Cur b t):Ans (r154 ((b,t),())) (Dr b fun v:Tup lockL=> ∃l:LockM,v=l.t∧LockP l∧l.reads.length≤100):=by
 unfold r154 m154
 refine (lockPads_loop fuel 0 [] t h (by omega) (by omega) (by have:=fuel_big;omega) rfl bytes_nil).bind ?_
 rintro _ ⟨i,p,t1,rfl,hc,hp⟩
 dsimp only[sumElim]
 refine (l2DrawRight_ok hc).bind ?_
 rintro _ ⟨⟨f,_⟩,t2,rfl,hc,hf,_⟩
 have hP:=newL_P hf hp
 refine (Ans.of (specLockNew_ok f p hf hp)).bind ?_
 rintro _ rfl
 refine (l1Below_ok hc 60).bind ?_
 rintro _ ⟨(v:Int),t3,rfl,hc,hv,_⟩
 have hv:=hv (by decide)
 refine (Ans.of (specLockRun_a (newL f p) v (lock_sizes hP (by show 0≤_;omega)) (by show 0≤_;omega))).bind ?_
 rintro _ rfl
 have e:lockRunA (newL f p) v=((runL (manyN v) (newL f p)).1.t,((runL (manyN v) (newL f p)).2:Int)):=by unfold lockRunA;rw[lockOkM_iff.2 hP,if_pos rfl]
 obtain ⟨a,b',c,d⟩:=runL_P (n:=manyN v) hP
 have hm:manyN v≤60:=by unfold manyN;split<;>omega
 have c:(runL (manyN v) (newL f p)).1.reads.length≤0+manyN v:=c
 exact .ret ⟨(lockRunA (newL f p) v).1,_,rfl,hc,(runL (manyN v) (newL f p)).1,by rw[e],a,by omega⟩
theorem bulk_app (f:List (List Int)) (l:List Int):bulk (f++[l])=bulk f+l.length:=by
 induction f with
 |nil=>simp[bulk]
 |cons x f ih=>simp only[List.cons_append,bulk,ih];omega
def SomeL (v:Tup lockL):Prop:= ∃l:LockM,v=l.t∧lockOkS l.t∧l.reads.length≤1000
theorem l12Draw_ok {b:List Int} {t:CurT} (h:Cur b t):Ans (r93 ((b,t),())) (Dr b SomeL):=by
 unfold r93 m93
 refine (l12DrawRight_ok h).bind ?_
 rintro _ ⟨_,t1,rfl,hc,l,rfl,hl,hr⟩
 have ho:lockOkS l.t:=hl.s (by omega)
 have hr:l.reads.length≤1000:=by omega
 refine (l1Below_ok hc 30).bind ?_
 rintro _ ⟨(q:Int),t3,rfl,hc,_,_⟩
 dsimp only
 cases eqI q 0
 ·rw[cond_false]
  cases eqI q 1
  ·rw[cond_false]
   cases eqI q 2
   ·rw[cond_false]
    cases eqI q 3
    ·rw[cond_false]
     cases eqI q 4
     ·rw[cond_false]
      cases eqI q 5
      ·rw[cond_false]
       cases eqI q 6
       ·rw[cond_false]
        cases eqI q 7
        ·rw[cond_false]
         exact .ret ⟨_,_,rfl,hc,l,rfl,ho,hr⟩
        ·rw[cond_true]
         exact .ret ⟨_,_,rfl,hc,{l with pad:={l.pad with shift:=256}},upShift l,(szL_iff _).2 ((szL_iff l).1 ho),hr⟩
       ·rw[cond_true]
        exact .ret ⟨_,_,rfl,hc,{l with apu:={l.apu with irq:=true},cpu:={l.cpu with i:=false}},upIrq l,(szL_iff _).2 ((szL_iff l).1 ho),hr⟩
      ·rw[cond_true]
       exact .ret ⟨_,_,rfl,hc,{l with nmi:=true},upLNmi l,(szL_iff _).2 ((szL_iff l).1 ho),hr⟩
     ·rw[cond_true]
      refine (l5Draw_ok hc).bind ?_
      rintro _ ⟨v,t4,rfl,hc,_⟩
      exact .ret ⟨_,_,rfl,hc,{l with cpu:=cpuM v},upLCpu l v,(szL_iff _).2 ((szL_iff l).1 ho),hr⟩
    ·have hf:=hl.frn
     have ht:=hl.ppu.t
     unfold framesN at hf
     rw[cond_true,leN_t (by show l.frames.length+1≤5864062014805;omega),cond_true]
     have hs:small (l.frames++[[1]]):=by
      refine ⟨by rw[List.length_append,List.length_singleton];omega,fun x hx=> ?_,by rw[bulk_app,bulk_48 hl.fr];show 48*l.frames.length+1≤_;omega⟩
      rcases List.mem_append.1 hx with h3|h3
      ·rw[hl.fr x h3];omega
      ·rw[List.mem_singleton.1 h3];decide
     exact .ret ⟨_,_,rfl,hc,{l with frames:=l.frames++[[1]]},upFr l,(szL_iff _).2 (by obtain ⟨o1,o2,o3,o4,o5,o6⟩:=(szL_iff l).1 ho;exact ⟨o1,o2,o3,o4,hs,o6⟩),hr⟩
   ·have hf:=hl.sam
    have ht:=hl.ppu.t
    rw[cond_true,leN_t (by show l.samples.length+1≤17592186044416;omega),cond_true]
    exact .ret ⟨_,_,rfl,hc,{l with samples:=l.samples++[0]},upSam l,(szL_iff _).2 (by obtain ⟨o1,o2,o3,o4,o5,o6,o7⟩:=(szL_iff l).1 ho;exact ⟨o1,o2,o3,o4,o5,(by show (l.samples++[0]).length≤4398046511104;rw[List.length_append,List.length_singleton];omega),o7⟩),hr⟩
  ·rw[cond_true]
   exact .ret ⟨_,_,rfl,hc,{l with steps:= -1},upSteps l,(szL_iff _).2 ((szL_iff l).1 ho),hr⟩
 ·rw[cond_true]
  exact .ret ⟨_,_,rfl,hc,{l with apu:={l.apu with T:=wI (l.apu.T+1)}},upAT l,(szL_iff _).2 ((szL_iff l).1 ho),hr⟩
theorem of_ans {U V:Type} {x:Option ((Bool×U)×V)} {u:U} {v:V} (h:Ans x fun r=>r=((true,u),v)):x=some ((true,u),v):=by
 obtain ⟨r,rfl,rfl⟩:=h
 rfl
theorem big_ok (b:List Int):r12 (b,())=some ((ltI 1048576 (lenI b),()),()):=rfl
theorem few_or {U V:Type} (b:List Int) (u:U) (v:V) {x:Option ((Bool×U)×V)} (h:b.length≤1048576→Ans x fun r=>r=((true,u),v)):Ans (bif ltI 1048576 (lenI b)then some ((true,u),v)else x) fun r=>r=((true,u),v):=by
 by_cases hb:1048576< (b.length:Int)
 ·rw[lenI_def,ltI_t hb,cond_true]
  exact .ret rfl
 ·rw[lenI_def,ltI_f hb,cond_false]
  exact h (by omega)
theorem Ans.cond {R:Type} {b:Bool} {x y:Option R} {P:R→Prop} (h1:b=true→Ans x P) (h2:b=false→Ans y P):Ans (bif b then x else y) P:=by
 cases b
 ·exact h2 rfl
 ·exact h1 rfl

end Go.Proofs.YtgpifihakjdfeaaGreat.Plain
