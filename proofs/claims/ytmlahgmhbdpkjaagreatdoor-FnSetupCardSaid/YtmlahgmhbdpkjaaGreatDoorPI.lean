/- Plain laws of the printed functions: Draw, Draw2, LawS. No condition beyond those that each lemma states. -/
import Derived.Test.YtmlahgmhbdpkjaaGreatDoorPH
set_option linter.unusedVariables false
set_option linter.unusedSimpArgs false
namespace Go.Proofs.YtmlahgmhbdpkjaaGreatDoor.Plain
open Go Go.Tev
def Ans {R:Type} (x:Option R) (P:R→Prop):Prop:= ∃r,x=some r∧P r
theorem Ans.bind {A B:Type} {x:Option A} {P:A→Prop} {f:A→Option B} {Q:B→Prop} (h:Ans x P) (k: ∀a,P a→Ans (f a) Q):Ans (x.bind f) Q:=by
 obtain ⟨a,rfl,ha⟩:=h
 exact k a ha
theorem Ans.ret {R:Type} {r:R} {P:R→Prop} (h:P r):Ans (some r) P:=⟨r,rfl,h⟩
theorem Ans.mono {R:Type} {x:Option R} {P Q:R→Prop} (h:Ans x P) (k: ∀r,P r→Q r):Ans x Q:=by
 obtain ⟨a,ha,hp⟩:=h
 exact ⟨a,ha,k a hp⟩
theorem Ans.of {R:Type} {x:Option R} {r:R} (h:x=some r):Ans x fun a=>a=r:=⟨r,h,rfl⟩
abbrev CurT:=Int×Int×Unit
def Cur (b:List Int) (t:CurT):Prop:=(0≤t.1∧t.1≤(b.length:Int))∧b.length≤1048576
def Dr {V:Type} (b:List Int) (P:V→Prop) (r:(V×Unit)×((List Int×CurT)×Unit)):Prop:= ∃v t,r=((v,()),((b,t),()))∧Cur b t∧P v
theorem Zlg (b:List Int) (hb:b.length≤1048576): ∀(k:Nat) (h i:Int),0≤i→i≤(b.length:Int)→(b.length:Int)-i<k→Ans (n37_0 k (b,()) () (h,(i,()))) fun r=> ∃h' i':Int,r=(Sum.inl (h',(i',())),())
 |0,_,_,_,h1,h2=>absurd h2 (by omega)
 |k+1,h,i,h0,h1,h2=>by
  show Ans (bif ltI i (lenI b)then _ else some (Sum.inl (h,(i,())),())) _
  by_cases hi:i< (b.length:Int)
  ·by_cases h4:i<4000
   ·simp only[Zab,Zaj hi,Zaj h4,Zao h0,cond_true]
    rw[Zau (x:=i+1) (by omega) (by omega)]
    exact Zlg b hb k _ _ (by omega) (by omega) (by omega)
   ·simp only[Zab,Zaj hi,ZaB h4,cond_true,cond_false]
    exact .ret ⟨_,_,rfl⟩
  ·rw[Zab,ZaB hi,cond_false]
   exact .ret ⟨_,_,rfl⟩
theorem Zta (b:List Int) (hb:b.length≤1048576):Ans (r37 (b,())) fun r=> ∃t:CurT,r=(((b,t),()),())∧Cur b t:=by
 unfold r37 m37
 refine (Zlg b hb fuel _ 0 (by omega) (by omega) (by have:=Zat;omega)).bind ?_
 rintro _ ⟨h',i',rfl⟩
 exact .ret ⟨_,rfl,⟨Int.le_refl _,by show (0:Int)≤_;omega⟩,hb⟩
theorem Zfw {b:List Int} {t:CurT} (h:Cur b t):Ans (r129 ((b,t),())) (Dr b fun v:Int=>0≤v∧v≤255):=by
 obtain ⟨i,hh,_⟩:=t
 obtain ⟨⟨h0,h1⟩,hb⟩:=h
 have h0:0≤i:=h0
 have h1:i≤(b.length:Int):=h1
 unfold r129 m129
 dsimp only
 by_cases hi:i< (b.length:Int)
 ·simp only[Zab,Zaj hi,Zao h0,cond_true]
  refine .ret ⟨_,_,rfl,⟨?_,hb⟩,by rw[ZiH];omega⟩
  show 0≤wI (i+1)∧wI (i+1)≤_
  rw[Zau (by omega) (by omega)]
  omega
 ·simp only[Zab,ZaB hi,cond_false]
  exact .ret ⟨_,_,rfl,⟨⟨h0,h1⟩,hb⟩,by rw[ZiH];omega⟩
theorem ZsB {a n:Int} (ha:0≤a) (hn:0<n):0≤Int.tmod a n∧Int.tmod a n<n:=by
 rw[Za8 ha]
 exact ⟨Int.emod_nonneg _ (by omega),Int.emod_lt_of_pos _ hn⟩
theorem ZcF {b:List Int} {t:CurT} (h:Cur b t) (n:Int):Ans (r84 ((b,t),(n,()))) (Dr b fun v:Int=>(0<n→0≤v∧v<n)∧(n≤0→v=0)):=by
 unfold r84 m84
 dsimp only
 by_cases h0:n≤0
 ·rw[Zao h0,cond_true]
  exact .ret ⟨_,_,rfl,h,fun h1=>absurd h0 (by omega),fun _=>rfl⟩
 rw[Zf5 h0,cond_false]
 by_cases h1:n≤256
 ·rw[Zao h1,cond_true]
  refine (Zfw h).bind ?_
  rintro _ ⟨v,t1,rfl,hc,hv⟩
  rw[Zdh (by omega),cond_true]
  exact .ret ⟨_,_,rfl,hc,fun _=>ZsB hv.1 (by omega),fun h2=>absurd h2 h0⟩
 ·rw[Zf5 h1,cond_false]
  refine (Zfw h).bind ?_
  rintro _ ⟨x,t1,rfl,hc,hx⟩
  refine (Zfw hc).bind ?_
  rintro _ ⟨y,t2,rfl,hc,hy⟩
  refine (Zfw hc).bind ?_
  rintro _ ⟨z,t3,rfl,hc,hz⟩
  refine (Zfw hc).bind ?_
  rintro _ ⟨w,t4,rfl,hc,hw⟩
  dsimp only
  rw[Zdh (by omega),cond_true]
  have e:wI (wI (wI (wI (x*16777216)+wI (y*65536))+wI (z*256))+w)=x*16777216+y*65536+z*256+w:=by
   rw[Zau (x:=x*16777216) (by omega) (by omega),Zau (x:=y*65536) (by omega) (by omega),Zau (x:=z*256) (by omega) (by omega),Zau (x:=x*16777216+y*65536) (by omega) (by omega),
    Zau (x:=x*16777216+y*65536+z*256) (by omega) (by omega),Zau (by omega) (by omega)]
  rw[e]
  exact .ret ⟨_,_,rfl,hc,fun _=>ZsB (by omega) (by omega),fun h2=>absurd h2 h0⟩
theorem Zg5 {b:List Int} {t:CurT} (h:Cur b t) (n:Int):Ans (r83 ((b,t),(n,()))) (Dr b fun _:Bool=>True):=by
 unfold r83 m83
 refine (ZcF h n).bind ?_
 rintro _ ⟨v,t1,rfl,hc,hv⟩
 exact .ret ⟨_,_,rfl,hc,trivial⟩
theorem Zij {b:List Int} {t:CurT} (h:Cur b t) (l:List Int) (hl:0<l.length):Ans (r40 ((b,t),(l,()))) (Dr b fun v:Int=>v∈l):=by
 unfold r40 m40
 refine (ZcF h (lenI l)).bind ?_
 rintro _ ⟨v,t1,rfl,hc,hv,_⟩
 rw[Zab]at hv
 obtain ⟨v0,v1⟩:=hv (by omega)
 dsimp only
 rw[Zao v0,cond_true,Zab,Zaj v1,cond_true]
 exact .ret ⟨_,_,rfl,hc,ZcK (e:= .i) v0 v1⟩
theorem ZrE {b:List Int} {t:CurT} (h:Cur b t) (l:List ByteArray) (hl:0<l.length):Ans (r128 ((b,t),(l,()))) (Dr b fun v:ByteArray=>v∈l):=by
 unfold r128 m128
 refine (ZcF h (lenI l)).bind ?_
 rintro _ ⟨v,t1,rfl,hc,hv,_⟩
 rw[Zab]at hv
 obtain ⟨v0,v1⟩:=hv (by omega)
 dsimp only
 rw[Zao v0,cond_true,Zab,Zaj v1,cond_true]
 exact .ret ⟨_,_,rfl,hc,ZcK (e:= .s) v0 v1⟩
theorem Zdw:Zb4 []:=fun n hn=>by cases hn
theorem ZcD {a:Int} {l:List Int} (ha:0≤a∧a≤255) (h:Zb4 l):Zb4 (a::l):=fun n hn=>by
 cases hn with
 |head=>exact ha
 |tail _ hn=>exact h n hn
theorem Zra {l:List Int} (h:Zb4 l) (i:Nat) {v:Int} (hv:0≤v∧v≤255):Zb4 (l.set i v):=fun n hn=>by
 rcases List.mem_or_eq_of_mem_set hn with h1|h1
 ·exact h n h1
 ·rw[h1];exact hv
theorem Zi3 (n:Nat):Zb4 (List.replicate n 0):=fun x hx=>by rw[(List.mem_replicate.1 hx).2];decide
theorem ZrF {b:List Int} {t:CurT} (h:Cur b t):Ans (r82 ((b,t),())) (Dr b fun v:ByteArray=>v.size≤400):=by
 unfold r82 m82
 refine (ZrE h _ (by decide)).bind ?_
 rintro _ ⟨v,t1,rfl,hc,hv⟩
 have hv:ByteArray.size v≤200:=by
  revert hv
  revert v
  decide+kernel
 dsimp only
 generalize hz:(bz _)=z
 have hz:z.size≤200:=by rw[←hz];decide+kernel
 rw[Zc5 (show ByteArray.size v+z.size≤4611686018427387904 by omega),cond_true]
 refine .ret ⟨_,_,rfl,hc,?_⟩
 show ByteArray.size (v++z)≤400
 rw[ByteArray.size_append]
 omega
theorem ZuX (s:Zac):ZaG s.t↔(small s.img∧s.pads.length≤4398046511104∧s.mem.ram.length≤4398046511104∧s.reads.length≤4398046511104∧(Zin s.pic.ppu.t∧s.pic.list.length≤4398046511104∧small s.pic.frames)∧s.snd.list.length≤4398046511104∧s.snd.samples.length≤4398046511104):=Iff.rfl
theorem ZvD {U V:Type} {x:Option ((Bool×U)×V)} {u:U} {v:V} (h:Ans x fun r=>r=((true,u),v)):x=some ((true,u),v):=by
 obtain ⟨r,rfl,rfl⟩:=h
 rfl
theorem ZvC (a:Int):neI a a=false:=ZdJ rfl
theorem Zvd (b:List Int):r13 (b,())=some ((ltI 1048576 (lenI b),()),()):=rfl
theorem Zhh (l:List Int) (hl:l.length≤4398046511104): ∀(k i:Nat),i≤l.length→l.length-i<k→n17_0 k (l,(l,())) () ((i:Int),())=some (Sum.inl ((l.length:Int),()),())
 |0,_,_,h=>absurd h (by omega)
 |k+1,i,hi,hk=>by
  show (bif ltI (i:Int) (lenI l)then _ else some (Sum.inl ((i:Int),()),()))=_
  by_cases h:i<l.length
  ·simp only[Zab,Zaj (show (i:Int)< (l.length:Int) by omega),Zao (show (0:Int)≤(i:Int) by omega),cond_true,ZvC,cond_false]
   rw[ZaW (by omega)]
   exact Zhh l hl k (i+1) (by omega) (by omega)
  ·obtain rfl:i=l.length:=by omega
   rw[Zab,ZaB (by omega),cond_false]
theorem Zmf (l:List Int) (hl:l.length≤4398046511104):r17 (l,(l,()))=some ((true,()),()):=by
 unfold r17 m17
 dsimp only
 rw[ZvC,cond_false]
 exact Zaa (Zhh l hl fuel 0 (Nat.zero_le _) (by have:=Zat;omega)) rfl
theorem Zvp {U V:Type} (b:List Int) (u:U) (v:V) {x:Option ((Bool×U)×V)} (h:b.length≤1048576→Ans x fun r=>r=((true,u),v)):Ans (bif ltI 1048576 (lenI b)then some ((true,u),v)else x) fun r=>r=((true,u),v):=by
 by_cases hb:1048576< (b.length:Int)
 ·rw[Zab,Zaj hb,cond_true]
  exact .ret rfl
 ·rw[Zab,ZaB hb,cond_false]
  exact h (by omega)
theorem Ans.cond {R:Type} {b:Bool} {x y:Option R} {P:R→Prop} (h1:b=true→Ans x P) (h2:b=false→Ans y P):Ans (bif b then x else y) P:=by
 cases b
 ·exact h2 rfl
 ·exact h1 rfl

end Go.Proofs.YtmlahgmhbdpkjaaGreatDoor.Plain
