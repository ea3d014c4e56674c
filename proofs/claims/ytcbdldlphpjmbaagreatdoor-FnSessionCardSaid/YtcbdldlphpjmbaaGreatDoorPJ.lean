/- Plain laws of the printed functions: LawD. No condition beyond those that each lemma states. -/
import Derived.Test.YtcbdldlphpjmbaaGreatDoorPI
set_option linter.unusedVariables false
set_option linter.unusedSimpArgs false
namespace Go.Proofs.YtcbdldlphpjmbaaGreatDoor.Plain
open Go Go.Tev
theorem Zem:Jb.t.1.length≤4398046511104:=by
 show (List.replicate 512 (0:Int)).length≤_;rw[List.length_replicate];omega
theorem Zjq {f:List (List Int)} (h: ¬Yn f):Y7 f Jb.t=false:=by
 cases hk:Y7 f Jb.t
 ·rfl
 ·exact absurd (UI.1 hk).img h
theorem ZeJ (f:List (List Int)) (hf:small f) (h: ¬Yn f) (a:Int):r179 ((f,()),(Jb.t,(a,())))=some (((0:Int),()),()):=by
 unfold r179 m179;exact Za (by rw[ZaX f Jb.t hf Zem,Zjq h]) rfl
theorem ZeS (f:List (List Int)) (hf:small f) (h: ¬Yn f) (a:Int):r144 ((f,()),(Jb.t,(a,())))=some (((0:Int),()),()):=by
 unfold r144 m144;exact Za (by rw[Za6 f Jb.t hf Zem,Zjq h]) rfl
theorem Zi7 (f:List (List Int)) (hf:small f): ∃c:Zq,r54 ((f,()),())=some ((c.t,()),())∧(Yn f→c=WR f):=by
 by_cases h:Yn f
 ·exact ⟨_,Zdl f h,fun _=>rfl⟩
 ·refine ⟨⟨0,0,255,Xq 0 0,false,false,false,true⟩,?_,fun k=>absurd k h⟩;unfold r54 m54;refine Za (y:=((Jb.t,()),())) rfl ?_;have kv:r111 ((f,()),(Jb.t,((65532:Int),())))=some ((Xq 0 0,()),()):=by
   unfold r111 m111;exact Za (ZeJ f hf h _) (Za (ZeJ f hf h _) (Za (Zal ((0:Int),((0:Int),()))) rfl))
  exact Za kv rfl
theorem ZjO (f:List (List Int)) (hf:small f): ∃c:Zq,r83 ((f,()),())=some ((c.t,()),())∧(Yn f→c=WR f):=by
 by_cases h:Yn f
 ·exact ⟨_,ZdO f h,fun _=>rfl⟩
 ·refine ⟨⟨0,0,255,Xq 0 0,false,false,false,true⟩,?_,fun k=>absurd k h⟩;unfold r83 m83;refine Za (y:=((Jb.t,()),())) rfl ?_;exact Za (ZeS f hf h _) (Za (ZeS f hf h _) (Za (ZaR ((0:Int),((0:Int),()))) rfl))
def Zrk (f:List (List Int)) (p:List Int) (cap:Int):Prop:=Yn f∧YN p∧1≤cap∧cap≤16
def XD (f:List (List Int)) (p:List Int) (cap:Int):Bool:=V5 f&&(XH p&&inR 1 16 cap)
theorem ZaO {f:List (List Int)} {p:List Int} {cap:Int}:XD f p cap=true↔Zrk f p cap:=by
 unfold XD Zrk;rw[Bool.and_eq_true,Bool.and_eq_true,ZfJ,UN,JE]
def W8 (f:List (List Int)) (p:List Int) (cap:Int):Tup QM×Bool:=if XD f p cap then ((Vy f p cap).t,true)else (ZhP,false)
def Wf (f:List (List Int)) (p:List Int) (cap:Int) (c:Zq):Zh:={Vy f p cap with cpu:=c}
theorem Zoo:small ([]:List (List Int)):=⟨by decide,(fun l hl=>by cases hl),by decide⟩
theorem Zp9 (f:List (List Int)) (p:List Int) (cap:Int) (c:Zq) (hf:small f) (hp:p.length≤2000000):ZU (Wf f p cap c).t:=
 (ZoB _).2 ⟨hf,(by show p.length≤_;omega),Zem,(by show ([]:List Int).length≤_;decide),⟨⟨by show (List.replicate 16 (0:Int)).length≤_;decide,by show ([]:List Int).length≤_;decide⟩,by show ([]:List Rc).length≤_;decide,Zoo⟩,by show ([]:List Rc).length≤_;decide,by show ([]:List Int).length≤_;decide⟩
theorem Zn8 {f:List (List Int)} {p:List Int} {cap:Int} {c:Zq} (hc:Yn f→c=WR f):Qb (Wf f p cap c).t=XD f p cap:=by
 cases h:XD f p cap
 ·cases k:Qb (Wf f p cap c).t
  ·rfl
  ·have k:=JX.1 k;have m:XD f p cap=true:=ZaO.2 ⟨k.mem.img,k.pads,k.pic.ring.c0,k.pic.ring.c1⟩;rw[h]at m;cases m
 ·obtain ⟨a,b,d⟩:=ZaO.1 h;obtain rfl:=hc a;exact JX.2 (Zp6 a b d)
theorem Zg9 (f:List (List Int)) (p:List Int) (cap:Int) (hf:small f) (hp:p.length≤2000000):r34 ((f,()),(p,(cap,())))=some (((W8 f p cap).1,((W8 f p cap).2,())),()):=by
 obtain ⟨c,k,hc⟩:=ZjO f hf;unfold r34 m34 W8;refine Za (Zam f hf) ?_;show (bif leN (0+p.length) (E.most .i)then _ else none)=_
 rw[ZI (show 0+p.length≤E.most .i by simp only[E.most];omega),Zb];refine Za (y:=((Jb.t,()),())) rfl (Za k (Za (y:=(((Y8 f p).ppu.t,()),())) rfl (Za (Vf (Wf f p cap c).t (Zp9 f p cap c hf hp)) ?_)));show (bif !Qb (Wf f p cap c).t then _ else _)=_
 rw[Zn8 hc];cases h:XD f p cap
 ·rfl
 ·obtain rfl:=hc (ZaO.1 h).1;rfl
theorem ZpK (f:List (List Int)) (p:List Int) (cap:Int) (c:Zq) (hf:small f) (hp:p.length≤2000000):r24 ((Wf f p cap c).t,())=some ((Qb (Wf f p cap c).t,()),()):=
 Vt (Wf f p cap c).t (Zp9 f p cap c hf hp)
theorem Zg0 (f:List (List Int)) (p:List Int) (cap:Int) (hf:small f) (hp:p.length≤2000000):r23 ((f,()),(p,(cap,())))=some (((W8 f p cap).1,((W8 f p cap).2,())),()):=by
 obtain ⟨c,k,hc⟩:=Zi7 f hf;unfold r23 m23 W8;have hr:r110 ((cap,([],())),())=some ((inR 1 16 cap,()),()):=by
  rw[Zdp _ (Nat.zero_le _)];have e:XJ (cap,([],()))=inR 1 16 cap:=by
   cases h:inR 1 16 cap
   ·cases k:XJ (cap,([],()))
    ·rfl
    ·have k:=ZaJ.1 k;exact absurd (JE.2 ⟨k.c0,k.c1⟩) (by rw[h];decide)
   ·obtain ⟨a,b⟩:=JE.1 h;exact ZaJ.2 (Zga ⟨a,b⟩)
  rw[e]
 have hn:r50 (cap,())=some (((bif inR 1 16 cap then (cap,([],()))else ((0:Int),(([]:List Rc),()))),(inR 1 16 cap,())),()):=by
  unfold r50 m50;refine Za hr ?_;dsimp only;cases inR 1 16 cap<;>rfl
 have hk: ∀x:Int,r56 ((x,([],())),())=some (((x,([],())),()),()):=fun x=>ZcX (x,([],())) (Nat.zero_le _);refine Za hn ?_;refine Za (ZaT f hf) (Za (Xl p (by omega)) (Za (y:=((Jb.t,()),())) rfl (Za k (Za (y:=(((Y8 f p).ppu.t,()),())) rfl ?_))));cases h:inR 1 16 cap
 ·refine Za (hk 0) (Za (hk 0) ?_);have e:XD f p cap=false:=by unfold XD;rw[h,Bool.and_false,Bool.and_false]
  rw[e];rfl
 ·refine Za (hk cap) (Za (hk cap) ?_);show (bif !true then _ else _)=_
  rw[ZM,Zd];refine Za (ZpK f p cap c hf hp) ?_;show (bif !Qb (Wf f p cap c).t then _ else _)=_
  rw[Zn8 hc];cases h2:XD f p cap
  ·rfl
  ·obtain rfl:=hc (ZaO.1 h2).1;rfl
theorem Ans.if_f {R:Type} {b:Bool} {x y:Option R} {P:R→Prop} (hb:b=false) (h:Ans y P):Ans (bif b then x else y) P:=by subst hb;exact h
theorem Ans.if_t {R:Type} {b:Bool} {x y:Option R} {P:R→Prop} (hb:b=true) (h:Ans x P):Ans (bif b then x else y) P:=by subst hb;exact h
theorem Znb: ∀(g:List (List Int)),(∀b,b∈g→b.length≤256)→Wz g≤256*g.length
 | [],_=>Nat.le_refl _
 |b::g,h=>by
  have:=Znb g (fun b hg=>h b (List.mem_cons_of_mem _ hg));have:=h b List.mem_cons_self;simp only[Wz,List.length_cons];omega
theorem ZpJ {g:List (List Int)} (hl:g.length≤8) (h: ∀b,b∈g→b.length≤256):small g:=by
 have:=Znb g h;exact ⟨by omega,fun b hb=>by have:=h b hb;omega,by omega⟩
theorem Zjv {b:List Int}: ∀(k:Nat) (i:Int) (l:List Int) (t:YM),Cur b t→0≤i→i≤5→5-i<k→l.length+(5-i).toNat≤100→
  Ans (n18_0 r19 r21 r46 k () ((b,t),()) (l,(i,()))) fun r=> ∃(i':Int) (l':List Int) (t':YM),r=(Sum.inl (l',(i',())),((b,t'),()))∧Cur b t'∧l'.length≤l.length+(5-i).toNat
 |0,_,_,_,_,_,h1,h2,_=>absurd h2 (by omega)
 |k+1,i,l,t,h,h0,h1,h2,hl=>by
  unfold n18_0 w18_0;refine (Vu h 5).bind ?_;rintro _ ⟨(v:Int),t1,rfl,hc,hv,_⟩;have hv:=hv (by decide);dsimp only;by_cases hi:i<v
  ·refine Ans.if_t (Zl hi) ?_;refine (Vu hc 256).bind ?_;rintro _ ⟨(w:Int),t2,rfl,hc,_⟩;refine Ans.if_t (ZI (show l.length+[w].length≤E.most .i by show l.length+1≤17592186044416;omega)) ?_;dsimp only;rw[Zr (x:=i+1) (by omega) (by omega)];have hl':(l++[w]).length=l.length+1:=by rw[List.length_append,List.length_singleton]
   refine (Zjv k (i+1) (l++[w]) t2 hc (by omega) (by omega) (by omega) (by omega)).mono ?_;rintro _ ⟨i',l',t',rfl,hc,hn⟩;exact ⟨i',l',t',rfl,hc,by omega⟩
  ·exact Ans.if_f (Zx hi) (.ret ⟨_,_,_,rfl,hc,Nat.le_add_right _ _⟩)
theorem Zg1 {b:List Int} {t:YM} (h:Cur b t):Ans (r18 ((b,t),())) (Dr b fun v:List Int=>v.length≤100):=by
 unfold r18 m18;refine (Zjv fuel 0 [] t h (by omega) (by omega) (by have:=ZZ;omega) (by show 0+5≤100;omega)).bind ?_;rintro _ ⟨i,l,t1,rfl,hc,hl⟩;have hl:l.length≤0+5:=hl;have mk: ∀{t:YM} (hc:Cur b t),Ans ((r19 ((b,t),((2:Int),()))).bind fun r5=>bif leI (0:Int) (wI ((20:Int)+r5.1.1))then (bif leN (Int.toNat (wI ((20:Int)+r5.1.1))) (E.most .i)then some ((List.replicate (Int.toNat (wI ((20:Int)+r5.1.1))) (0:Int),()),((b,r5.2.1.2),()))else none)else none) (Dr b fun v:List Int=>v.length≤100):=fun hc=>by
  refine (Vu hc 2).bind ?_;rintro _ ⟨(w:Int),t4,rfl,hc,hw,_⟩;have hw:=hw (by decide);dsimp only;rw[Zr (x:=20+w) (by omega) (by omega)];refine Ans.if_t (Zp (by omega)) (Ans.if_t (ZI (show (20+w).toNat≤E.most .i by show (20+w).toNat≤17592186044416;omega)) (.ret ⟨_,_,rfl,hc,?_⟩));show (List.replicate (20+w).toNat (0:Int)).length≤100;rw[List.length_replicate];omega
 refine (Zca hc 30).bind ?_;rintro _ ⟨o,t2,rfl,hc,_⟩;refine Ans.cond (fun _=> ?_) fun _=> ?_
 ·refine (Zjg hc [-1,256] (by decide)).bind ?_;rintro _ ⟨(w:Int),t3,rfl,hc,_⟩;refine Ans.if_t (ZI (show l.length+[w].length≤E.most .i by show l.length+1≤17592186044416;omega)) ?_;refine (Zca hc 40).bind ?_;rintro _ ⟨o2,t4,rfl,hc,_⟩;refine Ans.cond (fun _=>mk hc) fun _=> .ret ⟨_,_,rfl,hc,?_⟩;show (l++[w]).length≤100;rw[List.length_append,List.length_singleton];omega
 ·refine (Zca hc 40).bind ?_;rintro _ ⟨o2,t4,rfl,hc,_⟩;exact Ans.cond (fun _=>mk hc) fun _=> .ret ⟨_,_,rfl,hc,show l.length≤100 by omega⟩

end Go.Proofs.YtcbdldlphpjmbaaGreatDoor.Plain
