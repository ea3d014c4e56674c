/- Plain laws of the printed functions: Draw, LawS. No condition beyond those that each lemma states. -/
import Derived.Test.YtjagjoolnoodaaaDoorPD
set_option linter.unusedVariables false
set_option linter.unusedSimpArgs false
namespace Go.Proofs.YtjagjoolnoodaaaDoor.Plain
open Go Go.Tev
def Ans {R:Type} (x:Option R) (P:R→Prop):Prop:= ∃r,x=some r∧P r
theorem Ans.bind {A B:Type} {x:Option A} {P:A→Prop} {f:A→Option B} {Q:B→Prop} (h:Ans x P) (k: ∀a,P a→Ans (f a) Q):Ans (x.bind f) Q:=by
 obtain ⟨a,rfl,ha⟩:=h
 exact k a ha
theorem Ans.ret {R:Type} {r:R} {P:R→Prop} (h:P r):Ans (some r) P:=⟨r,rfl,h⟩
theorem Ans.of {R:Type} {x:Option R} {r:R} (h:x=some r):Ans x fun a=>a=r:=⟨r,h,rfl⟩
abbrev CurT:=Int×Int×Unit
def Cur (b:List Int) (t:CurT):Prop:=(0≤t.1∧t.1≤(b.length:Int))∧b.length≤1048576
def Dr {V:Type} (b:List Int) (P:V→Prop) (r:(V×Unit)×((List Int×CurT)×Unit)):Prop:= ∃v t,r=((v,()),((b,t),()))∧Cur b t∧P v
theorem l1New_loop (b:List Int) (hb:b.length≤1048576): ∀(k:Nat) (h i:Int),0≤i→i≤(b.length:Int)→(b.length:Int)-i<k→Ans (n26_0 k (b,()) () (h,(i,()))) fun r=> ∃h' i':Int,r=(Sum.inl (h',(i',())),())
 |0,_,_,_,h1,h2=>absurd h2 (by omega)
 |k+1,h,i,h0,h1,h2=>by
  show Ans (bif ltI i (lenI b)then _ else some (Sum.inl (h,(i,())),())) _
  by_cases hi:i< (b.length:Int)
  ·by_cases h4:i<4000
   ·simp only[lenI_def,ltI_t hi,ltI_t h4,leI_t h0,cond_true]
    rw[wI_id (x:=i+1) (by omega) (by omega)]
    exact l1New_loop b hb k _ _ (by omega) (by omega) (by omega)
   ·simp only[lenI_def,ltI_t hi,ltI_f h4,cond_true,cond_false]
    exact .ret ⟨_,_,rfl⟩
  ·rw[lenI_def,ltI_f hi,cond_false]
   exact .ret ⟨_,_,rfl⟩
theorem l1New_ok (b:List Int) (hb:b.length≤1048576):Ans (r26 (b,())) fun r=> ∃t:CurT,r=(((b,t),()),())∧Cur b t:=by
 unfold r26 m26
 refine (l1New_loop b hb fuel _ 0 (by omega) (by omega) (by have:=fuel_big;omega)).bind ?_
 rintro _ ⟨h',i',rfl⟩
 exact .ret ⟨_,rfl,⟨Int.le_refl _,by show (0:Int)≤_;omega⟩,hb⟩
theorem l1Byte_ok {b:List Int} {t:CurT} (h:Cur b t):Ans (r40 ((b,t),())) (Dr b fun v:Int=>0≤v∧v≤255):=by
 obtain ⟨i,hh,_⟩:=t
 obtain ⟨⟨h0,h1⟩,hb⟩:=h
 have h0:0≤i:=h0
 have h1:i≤(b.length:Int):=h1
 unfold r40 m40
 dsimp only
 by_cases hi:i< (b.length:Int)
 ·simp only[lenI_def,ltI_t hi,leI_t h0,cond_true]
  refine .ret ⟨_,_,rfl,⟨?_,hb⟩,by rw[bAnd_255];omega⟩
  show 0≤wI (i+1)∧wI (i+1)≤_
  rw[wI_id (by omega) (by omega)]
  omega
 ·simp only[lenI_def,ltI_f hi,cond_false]
  exact .ret ⟨_,_,rfl,⟨⟨h0,h1⟩,hb⟩,by rw[bAnd_255];omega⟩
theorem tmod_b {a n:Int} (ha:0≤a) (hn:0<n):0≤Int.tmod a n∧Int.tmod a n<n:=by
 rw[tmod_nn ha]
 exact ⟨Int.emod_nonneg _ (by omega),Int.emod_lt_of_pos _ hn⟩
theorem l1Below_ok {b:List Int} {t:CurT} (h:Cur b t) (n:Int):Ans (r29 ((b,t),(n,()))) (Dr b fun v:Int=>(0<n→0≤v∧v<n)∧(n≤0→v=0)):=by
 unfold r29 m29
 dsimp only
 by_cases h0:n≤0
 ·rw[leI_t h0,cond_true]
  exact .ret ⟨_,_,rfl,h,fun h1=>absurd h0 (by omega),fun _=>rfl⟩
 rw[leI_f h0,cond_false]
 by_cases h1:n≤256
 ·rw[leI_t h1,cond_true]
  refine (l1Byte_ok h).bind ?_
  rintro _ ⟨v,t1,rfl,hc,hv⟩
  rw[neI_t (by omega),cond_true]
  exact .ret ⟨_,_,rfl,hc,fun _=>tmod_b hv.1 (by omega),fun h2=>absurd h2 h0⟩
 ·rw[leI_f h1,cond_false]
  refine (l1Byte_ok h).bind ?_
  rintro _ ⟨x,t1,rfl,hc,hx⟩
  refine (l1Byte_ok hc).bind ?_
  rintro _ ⟨y,t2,rfl,hc,hy⟩
  refine (l1Byte_ok hc).bind ?_
  rintro _ ⟨z,t3,rfl,hc,hz⟩
  refine (l1Byte_ok hc).bind ?_
  rintro _ ⟨w,t4,rfl,hc,hw⟩
  dsimp only
  rw[neI_t (by omega),cond_true]
  have e:wI (wI (wI (wI (x*16777216)+wI (y*65536))+wI (z*256))+w)=x*16777216+y*65536+z*256+w:=by
   rw[wI_id (x:=x*16777216) (by omega) (by omega),wI_id (x:=y*65536) (by omega) (by omega),wI_id (x:=z*256) (by omega) (by omega),wI_id (x:=x*16777216+y*65536) (by omega) (by omega),
    wI_id (x:=x*16777216+y*65536+z*256) (by omega) (by omega),wI_id (by omega) (by omega)]
  rw[e]
  exact .ret ⟨_,_,rfl,hc,fun _=>tmod_b (by omega) (by omega),fun h2=>absurd h2 h0⟩
theorem l1Once_ok {b:List Int} {t:CurT} (h:Cur b t) (n:Int):Ans (r47 ((b,t),(n,()))) (Dr b fun _:Bool=>True):=by
 unfold r47 m47
 refine (l1Below_ok h n).bind ?_
 rintro _ ⟨v,t1,rfl,hc,hv⟩
 exact .ret ⟨_,_,rfl,hc,trivial⟩
theorem l1PickInt_ok {b:List Int} {t:CurT} (h:Cur b t) (l:List Int) (hl:0<l.length):Ans (r31 ((b,t),(l,()))) (Dr b fun v:Int=>v∈l):=by
 unfold r31 m31
 refine (l1Below_ok h (lenI l)).bind ?_
 rintro _ ⟨v,t1,rfl,hc,hv,_⟩
 rw[lenI_def]at hv
 obtain ⟨v0,v1⟩:=hv (by omega)
 dsimp only
 rw[leI_t v0,cond_true,lenI_def,ltI_t v1,cond_true]
 exact .ret ⟨_,_,rfl,hc,rdE_mem (e:= .i) v0 v1⟩
theorem l1Pick_ok {b:List Int} {t:CurT} (h:Cur b t) (l:List ByteArray) (hl:0<l.length):Ans (r30 ((b,t),(l,()))) (Dr b fun v:ByteArray=>v∈l):=by
 unfold r30 m30
 refine (l1Below_ok h (lenI l)).bind ?_
 rintro _ ⟨v,t1,rfl,hc,hv,_⟩
 rw[lenI_def]at hv
 obtain ⟨v0,v1⟩:=hv (by omega)
 dsimp only
 rw[leI_t v0,cond_true,lenI_def,ltI_t v1,cond_true]
 exact .ret ⟨_,_,rfl,hc,rdE_mem (e:= .s) v0 v1⟩
theorem l1DrawInt_ok {b:List Int} {t:CurT} (h:Cur b t):Ans (r42 ((b,t),())) (Dr b fun _:Int=>True):=by
 unfold r42 m42
 refine (l1Once_ok h 9).bind ?_
 rintro _ ⟨v,t1,rfl,hc,_⟩
 dsimp only
 cases v
 ·rw[cond_false]
  refine (l1Below_ok hc 256).bind ?_
  rintro _ ⟨v,t2,rfl,hc,_⟩
  exact .ret ⟨_,_,rfl,hc,trivial⟩
 ·rw[cond_true]
  refine (l1PickInt_ok hc _ (by decide)).bind ?_
  rintro _ ⟨v,t2,rfl,hc,_⟩
  exact .ret ⟨_,_,rfl,hc,trivial⟩
theorem l5DrawRight_ok {b:List Int} {t:CurT} (h:Cur b t):Ans (r41 ((b,t),())) (Dr b fun _:Tup cpuL=>True):=by
 unfold r41 m41
 refine (l1Below_ok h 256).bind ?_
 rintro _ ⟨a,t1,rfl,hc,_⟩
 refine (l1Below_ok hc 256).bind ?_
 rintro _ ⟨x,t2,rfl,hc,_⟩
 refine (l1PickInt_ok hc _ (by decide)).bind ?_
 rintro _ ⟨s,t3,rfl,hc,_⟩
 refine (l1PickInt_ok hc _ (by decide)).bind ?_
 rintro _ ⟨pc,t4,rfl,hc,_⟩
 refine (l1Below_ok hc 256).bind ?_
 rintro _ ⟨f,t5,rfl,hc,_⟩
 refine (Ans.of (specWithFlags_ok ⟨a,x,s,pc,false,false,false,false⟩ f)).bind ?_
 rintro _ rfl
 exact .ret ⟨_,_,rfl,hc,trivial⟩
theorem l5Draw_ok {b:List Int} {t:CurT} (h:Cur b t):Ans (r32 ((b,t),())) (Dr b fun _:Tup cpuL=>True):=by
 unfold r32 m32
 refine (l5DrawRight_ok h).bind ?_
 rintro _ ⟨a,t1,rfl,hc,_⟩
 refine (l1Below_ok hc 25).bind ?_
 rintro _ ⟨x,t2,rfl,hc,_⟩
 dsimp only
 have key: ∀{A:Type} (f:Int→Tup cpuL),Ans (r42 ((b,t2),())) (Dr b fun _:Int=>True):=fun _=>l1DrawInt_ok hc
 cases eqI x 0
 ·rw[cond_false]
  cases eqI x 1
  ·rw[cond_false]
   cases eqI x 2
   ·rw[cond_false]
    cases eqI x 3
    ·rw[cond_false]
     exact .ret ⟨_,_,rfl,hc,trivial⟩
    ·rw[cond_true]
     refine (l1PickInt_ok hc _ (by decide)).bind ?_
     rintro _ ⟨v,t3,rfl,hc,_⟩
     exact .ret ⟨_,_,rfl,hc,trivial⟩
   ·rw[cond_true]
    refine (l1DrawInt_ok hc).bind ?_
    rintro _ ⟨v,t3,rfl,hc,_⟩
    exact .ret ⟨_,_,rfl,hc,trivial⟩
  ·rw[cond_true]
   refine (l1DrawInt_ok hc).bind ?_
   rintro _ ⟨v,t3,rfl,hc,_⟩
   exact .ret ⟨_,_,rfl,hc,trivial⟩
 ·rw[cond_true]
  refine (l1DrawInt_ok hc).bind ?_
  rintro _ ⟨v,t3,rfl,hc,_⟩
  exact .ret ⟨_,_,rfl,hc,trivial⟩
theorem of_ans {U V:Type} {x:Option ((Bool×U)×V)} {u:U} {v:V} (h:Ans x fun r=>r=((true,u),v)):x=some ((true,u),v):=by
 obtain ⟨r,rfl,rfl⟩:=h
 rfl
theorem neI_s (a:Int):neI a a=false:=neI_f rfl
theorem big_ok (b:List Int):r8 (b,())=some ((ltI 1048576 (lenI b),()),()):=rfl
theorem sameInts_loop (l:List Int) (hl:l.length≤4398046511104): ∀(k i:Nat),i≤l.length→l.length-i<k→n13_0 k (l,(l,())) () ((i:Int),())=some (Sum.inl ((l.length:Int),()),())
 |0,_,_,h=>absurd h (by omega)
 |k+1,i,hi,hk=>by
  show (bif ltI (i:Int) (lenI l)then _ else some (Sum.inl ((i:Int),()),()))=_
  by_cases h:i<l.length
  ·simp only[lenI_def,ltI_t (show (i:Int)< (l.length:Int) by omega),leI_t (show (0:Int)≤(i:Int) by omega),cond_true,neI_s,cond_false]
   rw[wI_succ (by omega)]
   exact sameInts_loop l hl k (i+1) (by omega) (by omega)
  ·obtain rfl:i=l.length:=by omega
   rw[lenI_def,ltI_f (by omega),cond_false]
theorem sameInts_self (l:List Int) (hl:l.length≤4398046511104):r13 (l,(l,()))=some ((true,()),()):=by
 unfold r13 m13
 dsimp only
 rw[neI_s,cond_false]
 exact bind_step (sameInts_loop l hl fuel 0 (Nat.zero_le _) (by have:=fuel_big;omega)) rfl
theorem few_or {U V:Type} (b:List Int) (u:U) (v:V) {x:Option ((Bool×U)×V)} (h:b.length≤1048576→Ans x fun r=>r=((true,u),v)):Ans (bif ltI 1048576 (lenI b)then some ((true,u),v)else x) fun r=>r=((true,u),v):=by
 by_cases hb:1048576< (b.length:Int)
 ·rw[lenI_def,ltI_t hb,cond_true]
  exact .ret rfl
 ·rw[lenI_def,ltI_f hb,cond_false]
  exact h (by omega)

end Go.Proofs.YtjagjoolnoodaaaDoor.Plain
