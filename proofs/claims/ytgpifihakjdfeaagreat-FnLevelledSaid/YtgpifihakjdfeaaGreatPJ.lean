/- Plain laws of the printed functions: LawD. No condition beyond those that each lemma states. -/
import Derived.Test.YtgpifihakjdfeaaGreatPI
set_option linter.unusedVariables false
set_option linter.unusedSimpArgs false
namespace Go.Proofs.YtgpifihakjdfeaaGreat.Plain
open Go Go.Tev
theorem l1Long_ok (b:List Int) (lo hi:Int) (h:0≤lo∧lo≤hi∧hi≤1000) (hb:b.length≤1048576):Ans (r56 (b,(lo,(hi,())))) fun r=> ∃v:Int,r=((v,()),())∧0≤v∧v≤hi:=by
 unfold r56 m56
 dsimp only
 have e:wI (Int.tdiv (lenI b) 4)=(b.length:Int)/4:=by rw[lenI_def,tdiv_nn (by omega),wI_id (by omega) (by omega)]
 rw[e,wI_id (x:=lo+(b.length:Int)/4) (by omega) (by omega)]
 by_cases c:hi<lo+(b.length:Int)/4
 ·rw[ltI_t c,cond_true]
  exact .ret ⟨_,rfl,by omega,Int.le_refl _⟩
 ·rw[ltI_f c,cond_false]
  exact .ret ⟨_,rfl,by omega,by omega⟩
theorem played_loop0 {b:List Int} (who:Int): ∀(k:Nat) (i:Int) (l:List Int) (t:CurT),Cur b t→0≤i→i≤9→9-i<k→l.length+(9-i).toNat≤100000→
  Ans (n13_0 r55 r57 r56 r54 k (who,()) ((b,t),()) (l,(i,()))) fun r=> ∃(i':Int) (l':List Int) (t':CurT),r=(Sum.inl (l',(i',())),((b,t'),()))∧Cur b t'∧l'.length≤l.length+(9-i).toNat
 |0,_,_,_,_,_,h1,h2,_=>absurd h2 (by omega)
 |k+1,i,l,t,h,h0,h1,h2,hl=>by
  unfold n13_0 w13_0
  refine (l1Below_ok h 9).bind ?_
  rintro _ ⟨(v:Int),t1,rfl,hc,hv,_⟩
  have hv:=hv (by decide)
  dsimp only
  rw[wI_id (x:=1+v) (by omega) (by omega)]
  by_cases hi:i<1+v
  ·rw[ltI_t hi,cond_true,leN_t (show l.length+[who].length≤E.most .i by show l.length+1≤17592186044416;omega),cond_true,wI_id (x:=i+1) (by omega) (by omega)]
   rcases Int.lt_or_le i 9 with h9|h9
   ·have hl':(l++[who]).length=l.length+1:=by rw[List.length_append,List.length_singleton]
    refine (played_loop0 who k (i+1) (l++[who]) t1 hc (by omega) (by omega) (by omega) (by omega)).mono ?_
    rintro _ ⟨i',l',t',rfl,hc,hn⟩
    exact ⟨i',l',t',rfl,hc,by omega⟩
   ·omega
  ·rw[ltI_f hi,cond_false]
   exact .ret ⟨_,_,_,rfl,hc,Nat.le_add_right _ _⟩
theorem played_loop1 {b:List Int} (m:Int) (hm:m≤100): ∀(k:Nat) (i:Int) (l:List Int) (t:CurT),Cur b t→0≤i→i≤m→m-i<k→l.length+9*(m-i).toNat≤100000→
  Ans (n13_1 r55 r57 r56 r54 L13_0 k (m,()) ((b,t),()) (l,(i,()))) fun r=> ∃(i':Int) (l':List Int) (t':CurT),r=(Sum.inl (l',(i',())),((b,t'),()))∧Cur b t'∧l'.length≤l.length+9*(m-i).toNat
 |0,_,_,_,_,_,h1,h2,_=>absurd h2 (by omega)
 |k+1,i,l,t,h,h0,h1,h2,hl=>by
  show Ans (bif ltI i m then _ else some (Sum.inl (l,(i,())),((b,t),()))) _
  by_cases hi:i<m
  ·rw[ltI_t hi,cond_true]
   refine (l1Below_ok h 3).bind ?_
   rintro _ ⟨(v:Int),t1,rfl,hc,_⟩
   refine (played_loop0 v fuel 0 l t1 hc (by omega) (by omega) (by have:=fuel_big;omega) (by omega)).bind ?_
   rintro _ ⟨i',l',t2,rfl,hc,hn⟩
   dsimp only[sumElim]
   rw[wI_id (x:=i+1) (by omega) (by omega)]
   refine (played_loop1 m hm k (i+1) l' t2 hc (by omega) (by omega) (by omega) (by omega)).mono ?_
   rintro _ ⟨i',l'',t',rfl,hc,hn'⟩
   exact ⟨i',l'',t',rfl,hc,by omega⟩
  ·rw[ltI_f hi,cond_false]
   exact .ret ⟨_,_,_,rfl,h,Nat.le_add_right _ _⟩
theorem drawPlayed_ok {b:List Int} (hb:b.length≤1048576):Ans (r13 (b,())) fun r=> ∃(f:List (List Int)) (p:List Int) (cap:Int) (l:List Int),r=(((newS f p cap).t,(l,())),())∧ImgP f∧PadsP p∧(1≤cap∧cap≤16)∧l.length≤810:=by
 unfold r13 m13
 refine (l1New_ok b hb).bind ?_
 rintro _ ⟨t,rfl,hc⟩
 refine (l15DrawNew_ok hc).bind ?_
 rintro _ ⟨_,t1,rfl,hc,f,p,cap,rfl,hf,hp,h1,h2⟩
 refine (l1Long_ok b 40 90 (by omega) hb).bind ?_
 rintro _ ⟨v,rfl,h3,h4⟩
 refine (played_loop1 v (by omega) fuel 0 [] t1 hc (by omega) (by omega) (by have:=fuel_big;omega) (by show 0+9*(v-0).toNat≤100000;omega)).bind ?_
 rintro _ ⟨i',l',t2,rfl,hc,hn⟩
 have hn:l'.length≤0+9*(v-0).toNat:=hn
 exact .ret ⟨f,p,cap,l',rfl,hf,hp,by omega,by omega⟩
theorem played_P {f:List (List Int)} {p:List Int} {cap:Int} {l:List Int} (hf:ImgP f) (hp:PadsP p) (hc:1≤cap∧cap≤16) (hl:l.length≤810):
  playA (newS f p cap) l=((playM l (newS f p cap)).1.t,(playM l (newS f p cap)).2)∧BornP (playM l (newS f p cap)).1∧(playM l (newS f p cap)).1.steps≤810∧(playM l (newS f p cap)).1.reads.length≤810∧(playM l (newS f p cap)).1.img=f∧(playM l (newS f p cap)).1.pads=p∧0≤(playM l (newS f p cap)).2∧(playM l (newS f p cap)).2≤(l.length:Int):=by
 have hP:=newS_P hf hp hc
 obtain ⟨a,b⟩:=born_play (l:=l) (born_new hf hp hc)
 obtain ⟨c,d,e,g⟩:=playM_P (l:=l) hP
 obtain ⟨i1,i2⟩:=playM_img l (newS f p cap)
 have b:(playM l (newS f p cap)).1.steps≤0+l.length:=b
 have d:(playM l (newS f p cap)).1.reads.length≤0+l.length:=d
 exact ⟨by unfold playA;rw[splitOk_iff.2 hP,if_pos rfl,if_neg (by omega)],a,by omega,by omega,i1,i2,e,g⟩
theorem played_run {u:SplitM} (h:BornP u) (hs:u.steps≤3000):lockRunA (newL u.img u.pads) u.steps=((lockOf u).t,u.steps):=by
 obtain ⟨k,hk,hr⟩:=h.run
 have hP:=h.sim.p
 unfold lockRunA
 rw[lockOkM_iff.2 (newL_P hP.mem.img hP.pads),if_pos rfl]
 have e:manyN u.steps=k:=by unfold manyN;split<;>omega
 rw[e,hr,hk]
theorem lockOf_S {u:SplitM} (h:BornP u) (hs:u.steps≤3000):lockOkS (lockOf u).t:=by
 have e:=played_run h hs
 have:=lockRunA_S (l:=newL u.img u.pads) (by show 0≤_;omega) u.steps
 rw[e]at this
 exact this
theorem Ans.if_t {R:Type} {b:Bool} {x y:Option R} {P:R→Prop} (hb:b=true) (h:Ans x P):Ans (bif b then x else y) P:=by subst hb;exact h

end Go.Proofs.YtgpifihakjdfeaaGreat.Plain
