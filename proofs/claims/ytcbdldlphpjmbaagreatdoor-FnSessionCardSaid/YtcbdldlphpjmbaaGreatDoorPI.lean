/- Plain laws of the printed functions: Draw, Draw2, LawS. No condition beyond those that each lemma states. -/
import Derived.Test.YtcbdldlphpjmbaaGreatDoorPH
set_option linter.unusedVariables false
set_option linter.unusedSimpArgs false
namespace Go.Proofs.YtcbdldlphpjmbaaGreatDoor.Plain
open Go Go.Tev
def Ans {R:Type} (x:Option R) (P:R→Prop):Prop:= ∃r,x=some r∧P r
theorem Ans.bind {A B:Type} {x:Option A} {P:A→Prop} {f:A→Option B} {Q:B→Prop} (h:Ans x P) (k: ∀a,P a→Ans (f a) Q):Ans (x.bind f) Q:=by
 obtain ⟨a,rfl,ha⟩:=h;exact k a ha
theorem Ans.ret {R:Type} {r:R} {P:R→Prop} (h:P r):Ans (some r) P:=⟨r,rfl,h⟩
theorem Ans.mono {R:Type} {x:Option R} {P Q:R→Prop} (h:Ans x P) (k: ∀r,P r→Q r):Ans x Q:=by
 obtain ⟨a,ha,hp⟩:=h;exact ⟨a,ha,k a hp⟩
theorem Ans.of {R:Type} {x:Option R} {r:R} (h:x=some r):Ans x fun a=>a=r:=⟨r,h,rfl⟩
abbrev YM:=Int×Int×Unit
def Cur (b:List Int) (t:YM):Prop:=(0≤t.1∧t.1≤(b.length:Int))∧b.length≤1048576
def Dr {V:Type} (b:List Int) (P:V→Prop) (r:(V×Unit)×((List Int×YM)×Unit)):Prop:= ∃v t,r=((v,()),((b,t),()))∧Cur b t∧P v
theorem Zhx (b:List Int) (hb:b.length≤1048576): ∀(k:Nat) (h i:Int),0≤i→i≤(b.length:Int)→(b.length:Int)-i<k→Ans (n16_0 k (b,()) () (h,(i,()))) fun r=> ∃h' i':Int,r=(Sum.inl (h',(i',())),())
 |0,_,_,_,h1,h2=>absurd h2 (by omega)
 |k+1,h,i,h0,h1,h2=>by
  show Ans (bif ltI i (Zf b)then _ else some (Sum.inl (h,(i,())),())) _
  by_cases hi:i< (b.length:Int)
  ·by_cases h4:i<4000
   ·simp only[Zs,Zl hi,Zl h4,Zp h0,Zb];rw[Zr (x:=i+1) (by omega) (by omega)];exact Zhx b hb k _ _ (by omega) (by omega) (by omega)
   ·simp only[Zs,Zl hi,Zx h4,Zb,Zd];exact .ret ⟨_,_,rfl⟩
  ·rw[Zs,Zx hi,Zd];exact .ret ⟨_,_,rfl⟩
theorem Zpk (b:List Int) (hb:b.length≤1048576):Ans (r16 (b,())) fun r=> ∃t:YM,r=(((b,t),()),())∧Cur b t:=by
 unfold r16 m16;refine (Zhx b hb fuel _ 0 (by omega) (by omega) (by have:=ZZ;omega)).bind ?_;rintro _ ⟨h',i',rfl⟩;exact .ret ⟨_,rfl,⟨Int.le_refl _,by show (0:Int)≤_;omega⟩,hb⟩
theorem Zb9 {b:List Int} {t:YM} (h:Cur b t):Ans (r47 ((b,t),())) (Dr b fun v:Int=>0≤v∧v≤255):=by
 obtain ⟨i,hh,_⟩:=t;obtain ⟨⟨h0,h1⟩,hb⟩:=h;have h0:0≤i:=h0;have h1:i≤(b.length:Int):=h1;unfold r47 m47;dsimp only;by_cases hi:i< (b.length:Int)
 ·simp only[Zs,Zl hi,Zp h0,Zb];refine .ret ⟨_,_,rfl,⟨?_,hb⟩,by rw[Kx];omega⟩;show 0≤wI (i+1)∧wI (i+1)≤_;rw[Zr (by omega) (by omega)];omega
 ·simp only[Zs,Zx hi,Zd];exact .ret ⟨_,_,rfl,⟨⟨h0,h1⟩,hb⟩,by rw[Kx];omega⟩
theorem ZoL {a n:Int} (ha:0≤a) (hn:0<n):0≤Int.tmod a n∧Int.tmod a n<n:=by
 rw[Qx ha];exact ⟨Int.emod_nonneg _ (by omega),Int.emod_lt_of_pos _ hn⟩
theorem Vu {b:List Int} {t:YM} (h:Cur b t) (n:Int):Ans (r19 ((b,t),(n,()))) (Dr b fun v:Int=>(0<n→0≤v∧v<n)∧(n≤0→v=0)):=by
 unfold r19 m19;dsimp only;by_cases h0:n≤0
 ·rw[Zp h0,Zb];exact .ret ⟨_,_,rfl,h,fun h1=>absurd h0 (by omega),fun _=>rfl⟩
 rw[JG h0,Zd];by_cases h1:n≤256
 ·rw[Zp h1,Zb];refine (Zb9 h).bind ?_;rintro _ ⟨v,t1,rfl,hc,hv⟩;rw[QS (by omega),Zb];exact .ret ⟨_,_,rfl,hc,fun _=>ZoL hv.1 (by omega),fun h2=>absurd h2 h0⟩
 ·rw[JG h1,Zd];refine (Zb9 h).bind ?_;rintro _ ⟨x,t1,rfl,hc,hx⟩;refine (Zb9 hc).bind ?_;rintro _ ⟨y,t2,rfl,hc,hy⟩;refine (Zb9 hc).bind ?_;rintro _ ⟨z,t3,rfl,hc,hz⟩;refine (Zb9 hc).bind ?_;rintro _ ⟨w,t4,rfl,hc,hw⟩;dsimp only;rw[QS (by omega),Zb];have e:wI (wI (wI (wI (x*16777216)+wI (y*65536))+wI (z*256))+w)=x*16777216+y*65536+z*256+w:=by
   rw[Zr (x:=x*16777216) (by omega) (by omega),Zr (x:=y*65536) (by omega) (by omega),Zr (x:=z*256) (by omega) (by omega),Zr (x:=x*16777216+y*65536) (by omega) (by omega),
    Zr (x:=x*16777216+y*65536+z*256) (by omega) (by omega),Zr (by omega) (by omega)]
  rw[e];exact .ret ⟨_,_,rfl,hc,fun _=>ZoL (by omega) (by omega),fun h2=>absurd h2 h0⟩
theorem Zca {b:List Int} {t:YM} (h:Cur b t) (n:Int):Ans (r21 ((b,t),(n,()))) (Dr b fun _:Bool=>True):=by
 unfold r21 m21;refine (Vu h n).bind ?_;rintro _ ⟨v,t1,rfl,hc,hv⟩;exact .ret ⟨_,_,rfl,hc,trivial⟩
theorem Zjg {b:List Int} {t:YM} (h:Cur b t) (l:List Int) (hl:0<l.length):Ans (r46 ((b,t),(l,()))) (Dr b fun v:Int=>v∈l):=by
 unfold r46 m46;refine (Vu h (Zf l)).bind ?_;rintro _ ⟨v,t1,rfl,hc,hv,_⟩;rw[Zs]at hv;obtain ⟨v0,v1⟩:=hv (by omega);dsimp only;rw[Zp v0,Zb,Zs,Zl v1,Zb];exact .ret ⟨_,_,rfl,hc,XI (e:= .i) v0 v1⟩
theorem Zjh {b:List Int} {t:YM} (h:Cur b t) (l:List ByteArray) (hl:0<l.length):Ans (r48 ((b,t),(l,()))) (Dr b fun v:ByteArray=>v∈l):=by
 unfold r48 m48;refine (Vu h (Zf l)).bind ?_;rintro _ ⟨v,t1,rfl,hc,hv,_⟩;rw[Zs]at hv;obtain ⟨v0,v1⟩:=hv (by omega);dsimp only;rw[Zp v0,Zb,Zs,Zl v1,Zb];exact .ret ⟨_,_,rfl,hc,XI (e:= .s) v0 v1⟩
theorem Uo:J7 []:=fun n hn=>by cases hn
theorem Un {a:Int} {l:List Int} (ha:0≤a∧a≤255) (h:J7 l):J7 (a::l):=fun n hn=>by
 cases hn with
 |head=>exact ha
 |tail _ hn=>exact h n hn
theorem Znd {l:List Int} (h:J7 l) (i:Nat) {v:Int} (hv:0≤v∧v≤255):J7 (l.set i v):=fun n hn=>by
 rcases List.mem_or_eq_of_mem_set hn with h1|h1
 ·exact h n h1
 ·rw[h1];exact hv
theorem Zfm (n:Nat):J7 (List.replicate n 0):=fun x hx=>by rw[(List.mem_replicate.1 hx).2];decide
theorem ZnG {b:List Int} {t:YM} (h:Cur b t):Ans (r45 ((b,t),())) (Dr b fun v:ByteArray=>v.size≤400):=by
 unfold r45 m45;refine (Zjh h _ (by decide)).bind ?_;rintro _ ⟨v,t1,rfl,hc,hv⟩;have hv:ByteArray.size v≤200:=by
  revert hv;revert v;decide+kernel
 dsimp only;generalize hz:(bz _)=z;have hz:z.size≤200:=by rw[←hz];decide+kernel
 rw[ZI (show ByteArray.size v+z.size≤4611686018427387904 by omega),Zb];refine .ret ⟨_,_,rfl,hc,?_⟩;show ByteArray.size (v++z)≤400;rw[ByteArray.size_append];omega
theorem ZoB (s:Zh):ZU s.t↔(small s.img∧s.pads.length≤4398046511104∧s.mem.ram.length≤4398046511104∧s.reads.length≤4398046511104∧(VG s.pic.ppu.t∧s.pic.list.length≤4398046511104∧small s.pic.frames)∧s.snd.list.length≤4398046511104∧s.snd.samples.length≤4398046511104):=Iff.rfl
theorem ZrS {U V:Type} {x:Option ((Bool×U)×V)} {u:U} {v:V} (h:Ans x fun r=>r=((true,u),v)):x=some ((true,u),v):=by
 obtain ⟨r,rfl,rfl⟩:=h;rfl
theorem Zrp (b:List Int):r9 (b,())=some ((ltI 1048576 (Zf b),()),()):=rfl
theorem ZrD {U V:Type} (b:List Int) (u:U) (v:V) {x:Option ((Bool×U)×V)} (h:b.length≤1048576→Ans x fun r=>r=((true,u),v)):Ans (bif ltI 1048576 (Zf b)then some ((true,u),v)else x) fun r=>r=((true,u),v):=by
 by_cases hb:1048576< (b.length:Int)
 ·rw[Zs,Zl hb,Zb];exact .ret rfl
 ·rw[Zs,Zx hb,Zd];exact h (by omega)
theorem Ans.cond {R:Type} {b:Bool} {x y:Option R} {P:R→Prop} (h1:b=true→Ans x P) (h2:b=false→Ans y P):Ans (bif b then x else y) P:=by
 cases b
 ·exact h2 rfl
 ·exact h1 rfl

end Go.Proofs.YtcbdldlphpjmbaaGreatDoor.Plain
