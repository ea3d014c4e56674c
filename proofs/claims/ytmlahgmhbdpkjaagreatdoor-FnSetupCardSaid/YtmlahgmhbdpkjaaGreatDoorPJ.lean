/- Plain laws of the printed functions: LawD. No condition beyond those that each lemma states. -/
import Derived.Test.YtmlahgmhbdpkjaaGreatDoorPI
set_option linter.unusedVariables false
set_option linter.unusedSimpArgs false
namespace Go.Proofs.YtmlahgmhbdpkjaaGreatDoor.Plain
open Go Go.Tev
theorem ZhQ:Zbv.t.1.length≤4398046511104:=by
 show (List.replicate 512 (0:Int)).length≤_
 rw[List.length_replicate];omega
theorem Znc {f:List (List Int)} (h: ¬ImgP f):ZhP f Zbv.t=false:=by
 cases hk:ZhP f Zbv.t
 ·rfl
 ·exact absurd (ZdB.1 hk).img h
theorem Zif (f:List (List Int)) (hf:small f) (h: ¬ImgP f) (a:Int):r160 ((f,()),(Zbv.t,(a,())))=some (((0:Int),()),()):=by
 unfold r160 m160
 exact Zaa (by rw[ZdU f Zbv.t hf ZhQ,Znc h]) rfl
theorem Zir (f:List (List Int)) (hf:small f) (h: ¬ImgP f) (a:Int):r115 ((f,()),(Zbv.t,(a,())))=some (((0:Int),()),()):=by
 unfold r115 m115
 exact Zaa (by rw[ZfI f Zbv.t hf ZhQ,Znc h]) rfl
theorem ZmX (f:List (List Int)) (hf:small f): ∃c:CpuM,r69 ((f,()),())=some ((c.t,()),())∧(ImgP f→c=Zim f):=by
 by_cases h:ImgP f
 ·exact ⟨_,ZgZ f h,fun _=>rfl⟩
 ·refine ⟨⟨0,0,255,ZgA 0 0,false,false,false,true⟩,?_,fun k=>absurd k h⟩
  unfold r69 m69
  refine Zaa (y:=((Zbv.t,()),())) rfl ?_
  have kv:r124 ((f,()),(Zbv.t,((65532:Int),())))=some ((ZgA 0 0,()),()):=by
   unfold r124 m124
   exact Zaa (Zif f hf h _) (Zaa (Zif f hf h _) (Zaa (ZcE ((0:Int),((0:Int),()))) rfl))
  exact Zaa kv rfl
theorem Znx (f:List (List Int)) (hf:small f): ∃c:CpuM,r62 ((f,()),())=some ((c.t,()),())∧(ImgP f→c=Zim f):=by
 by_cases h:ImgP f
 ·exact ⟨_,Zmm f h,fun _=>rfl⟩
 ·refine ⟨⟨0,0,255,ZgA 0 0,false,false,false,true⟩,?_,fun k=>absurd k h⟩
  unfold r62 m62
  refine Zaa (y:=((Zbv.t,()),())) rfl ?_
  exact Zaa (Zir f hf h _) (Zaa (Zir f hf h _) (Zaa (Zkb ((0:Int),((0:Int),()))) rfl))
def Zvb (f:List (List Int)) (p:List Int) (cap:Int):Prop:=ImgP f∧ZgL p∧1≤cap∧cap≤16
def Zcr (f:List (List Int)) (p:List Int) (cap:Int):Bool:=ZeP f&&(Zfd p&&inR 1 16 cap)
theorem ZdC {f:List (List Int)} {p:List Int} {cap:Int}:Zcr f p cap=true↔Zvb f p cap:=by
 unfold Zcr Zvb
 rw[Bool.and_eq_true,Bool.and_eq_true,Zjm,Zdo,Zbp]
def ZcV (f:List (List Int)) (p:List Int) (cap:Int):Tup ZbF×Bool:=if Zcr f p cap then ((newS f p cap).t,true)else (ZpC,false)
def rawS (f:List (List Int)) (p:List Int) (cap:Int) (c:CpuM):Zac:={newS f p cap with cpu:=c}
theorem Zsk:small ([]:List (List Int)):=⟨by decide,(fun l hl=>by cases hl),by decide⟩
theorem ZtX (f:List (List Int)) (p:List Int) (cap:Int) (c:CpuM) (hf:small f) (hp:p.length≤2000000):ZaG (rawS f p cap c).t:=
 (ZuX _).2 ⟨hf,(by show p.length≤_;omega),ZhQ,(by show ([]:List Int).length≤_;decide),⟨⟨by show (List.replicate 16 (0:Int)).length≤_;decide,by show ([]:List Int).length≤_;decide⟩,by show ([]:List Rc).length≤_;decide,Zsk⟩,by show ([]:List Rc).length≤_;decide,by show ([]:List Int).length≤_;decide⟩
theorem Zr5 {f:List (List Int)} {p:List Int} {cap:Int} {c:CpuM} (hc:ImgP f→c=Zim f):ZaV (rawS f p cap c).t=Zcr f p cap:=by
 cases h:Zcr f p cap
 ·cases k:ZaV (rawS f p cap c).t
  ·rfl
  ·have k:=ZaO.1 k
   have m:Zcr f p cap=true:=ZdC.2 ⟨k.mem.img,k.pads,k.pic.ring.c0,k.pic.ring.c1⟩
   rw[h]at m
   cases m
 ·obtain ⟨a,b,d⟩:=ZdC.1 h
  obtain rfl:=hc a
  exact ZaO.2 (ZrO a b d)
theorem ZkO (f:List (List Int)) (p:List Int) (cap:Int) (hf:small f) (hp:p.length≤2000000):r20 ((f,()),(p,(cap,())))=some (((ZcV f p cap).1,((ZcV f p cap).2,())),()):=by
 obtain ⟨c,k,hc⟩:=Znx f hf
 unfold r20 m20 ZcV
 refine Zaa (Zoa f hf) ?_
 show (bif leN (0+p.length) (E.most .i)then _ else none)=_
 rw[Zc5 (show 0+p.length≤E.most .i by simp only[E.most];omega),cond_true]
 refine Zaa (y:=((Zbv.t,()),())) rfl (Zaa k (Zaa (y:=(((newL f p).ppu.t,()),())) rfl (Zaa (ZkP (rawS f p cap c).t (ZtX f p cap c hf hp)) ?_)))
 show (bif !ZaV (rawS f p cap c).t then _ else _)=_
 rw[Zr5 hc]
 cases h:Zcr f p cap
 ·rfl
 ·obtain rfl:=hc (ZdC.1 h).1
  rfl
theorem ZtB (f:List (List Int)) (p:List Int) (cap:Int) (c:CpuM) (hf:small f) (hp:p.length≤2000000):r16 ((rawS f p cap c).t,())=some ((ZaV (rawS f p cap c).t,()),()):=
 Za4 (rawS f p cap c).t (ZtX f p cap c hf hp)
theorem ZkD (f:List (List Int)) (p:List Int) (cap:Int) (hf:small f) (hp:p.length≤2000000):r21 ((f,()),(p,(cap,())))=some (((ZcV f p cap).1,((ZcV f p cap).2,())),()):=by
 obtain ⟨c,k,hc⟩:=ZmX f hf
 unfold r21 m21 ZcV
 have hr:r123 ((cap,([],())),())=some ((inR 1 16 cap,()),()):=by
  rw[Zg2 _ (Nat.zero_le _)]
  have e:Zd0 (cap,([],()))=inR 1 16 cap:=by
   cases h:inR 1 16 cap
   ·cases k:Zd0 (cap,([],()))
    ·rfl
    ·have k:=Zdp.1 k
     exact absurd (Zbp.2 ⟨k.c0,k.c1⟩) (by rw[h];decide)
   ·obtain ⟨a,b⟩:=Zbp.1 h
    exact Zdp.2 (ZjF ⟨a,b⟩)
  rw[e]
 have hn:r65 (cap,())=some (((bif inR 1 16 cap then (cap,([],()))else ((0:Int),(([]:List Rc),()))),(inR 1 16 cap,())),()):=by
  unfold r65 m65
  refine Zaa hr ?_
  dsimp only
  cases inR 1 16 cap<;>rfl
 have hk: ∀x:Int,r71 ((x,([],())),())=some (((x,([],())),()),()):=fun x=>Zgv (x,([],())) (Nat.zero_le _)
 refine Zaa hn ?_
 refine Zaa (ZdQ f hf) (Zaa (ZaM p (by omega)) (Zaa (y:=((Zbv.t,()),())) rfl (Zaa k (Zaa (y:=(((newL f p).ppu.t,()),())) rfl ?_))))
 cases h:inR 1 16 cap
 ·refine Zaa (hk 0) (Zaa (hk 0) ?_)
  have e:Zcr f p cap=false:=by unfold Zcr;rw[h,Bool.and_false,Bool.and_false]
  rw[e]
  rfl
 ·refine Zaa (hk cap) (Zaa (hk cap) ?_)
  show (bif !true then _ else _)=_
  rw[Bool.not_true,cond_false]
  refine Zaa (ZtB f p cap c hf hp) ?_
  show (bif !ZaV (rawS f p cap c).t then _ else _)=_
  rw[Zr5 hc]
  cases h2:Zcr f p cap
  ·rfl
  ·obtain rfl:=hc (ZdC.1 h2).1
   rfl
theorem Ans.if_f {R:Type} {b:Bool} {x y:Option R} {P:R→Prop} (hb:b=false) (h:Ans y P):Ans (bif b then x else y) P:=by subst hb;exact h
theorem Ans.if_t {R:Type} {b:Bool} {x y:Option R} {P:R→Prop} (hb:b=true) (h:Ans x P):Ans (bif b then x else y) P:=by subst hb;exact h
theorem Zq8: ∀(g:List (List Int)),(∀b,b∈g→b.length≤256)→bulk g≤256*g.length
 | [],_=>Nat.le_refl _
 |b::g,h=>by
  have:=Zq8 g (fun b hg=>h b (List.mem_cons_of_mem _ hg))
  have:=h b List.mem_cons_self
  simp only[bulk,List.length_cons]
  omega
theorem Ztz {g:List (List Int)} (hl:g.length≤8) (h: ∀b,b∈g→b.length≤256):small g:=by
 have:=Zq8 g h
 exact ⟨by omega,fun b hb=>by have:=h b hb;omega,by omega⟩
theorem Zng {b:List Int}: ∀(k:Nat) (i:Int) (l:List Int) (t:CurT),Cur b t→0≤i→i≤5→5-i<k→l.length+(5-i).toNat≤100→
  Ans (n39_0 r84 r83 r40 k () ((b,t),()) (l,(i,()))) fun r=> ∃(i':Int) (l':List Int) (t':CurT),r=(Sum.inl (l',(i',())),((b,t'),()))∧Cur b t'∧l'.length≤l.length+(5-i).toNat
 |0,_,_,_,_,_,h1,h2,_=>absurd h2 (by omega)
 |k+1,i,l,t,h,h0,h1,h2,hl=>by
  unfold n39_0 w39_0
  refine (ZcF h 5).bind ?_
  rintro _ ⟨(v:Int),t1,rfl,hc,hv,_⟩
  have hv:=hv (by decide)
  dsimp only
  by_cases hi:i<v
  ·refine Ans.if_t (Zaj hi) ?_
   refine (ZcF hc 256).bind ?_
   rintro _ ⟨(w:Int),t2,rfl,hc,_⟩
   refine Ans.if_t (Zc5 (show l.length+[w].length≤E.most .i by show l.length+1≤17592186044416;omega)) ?_
   dsimp only
   rw[Zau (x:=i+1) (by omega) (by omega)]
   have hl':(l++[w]).length=l.length+1:=by rw[List.length_append,List.length_singleton]
   refine (Zng k (i+1) (l++[w]) t2 hc (by omega) (by omega) (by omega) (by omega)).mono ?_
   rintro _ ⟨i',l',t',rfl,hc,hn⟩
   exact ⟨i',l',t',rfl,hc,by omega⟩
  ·exact Ans.if_f (ZaB hi) (.ret ⟨_,_,_,rfl,hc,Nat.le_add_right _ _⟩)
theorem ZkE {b:List Int} {t:CurT} (h:Cur b t):Ans (r39 ((b,t),())) (Dr b fun v:List Int=>v.length≤100):=by
 unfold r39 m39
 refine (Zng fuel 0 [] t h (by omega) (by omega) (by have:=Zat;omega) (by show 0+5≤100;omega)).bind ?_
 rintro _ ⟨i,l,t1,rfl,hc,hl⟩
 have hl:l.length≤0+5:=hl
 have mk: ∀{t:CurT} (hc:Cur b t),Ans ((r84 ((b,t),((2:Int),()))).bind fun r5=>bif leI (0:Int) (wI ((20:Int)+r5.1.1))then (bif leN (Int.toNat (wI ((20:Int)+r5.1.1))) (E.most .i)then some ((List.replicate (Int.toNat (wI ((20:Int)+r5.1.1))) (0:Int),()),((b,r5.2.1.2),()))else none)else none) (Dr b fun v:List Int=>v.length≤100):=fun hc=>by
  refine (ZcF hc 2).bind ?_
  rintro _ ⟨(w:Int),t4,rfl,hc,hw,_⟩
  have hw:=hw (by decide)
  dsimp only
  rw[Zau (x:=20+w) (by omega) (by omega)]
  refine Ans.if_t (Zao (by omega)) (Ans.if_t (Zc5 (show (20+w).toNat≤E.most .i by show (20+w).toNat≤17592186044416;omega)) (.ret ⟨_,_,rfl,hc,?_⟩))
  show (List.replicate (20+w).toNat (0:Int)).length≤100
  rw[List.length_replicate];omega
 refine (Zg5 hc 30).bind ?_
 rintro _ ⟨o,t2,rfl,hc,_⟩
 refine Ans.cond (fun _=> ?_) fun _=> ?_
 ·refine (Zij hc [-1,256] (by decide)).bind ?_
  rintro _ ⟨(w:Int),t3,rfl,hc,_⟩
  refine Ans.if_t (Zc5 (show l.length+[w].length≤E.most .i by show l.length+1≤17592186044416;omega)) ?_
  refine (Zg5 hc 40).bind ?_
  rintro _ ⟨o2,t4,rfl,hc,_⟩
  refine Ans.cond (fun _=>mk hc) fun _=> .ret ⟨_,_,rfl,hc,?_⟩
  show (l++[w]).length≤100
  rw[List.length_append,List.length_singleton];omega
 ·refine (Zg5 hc 40).bind ?_
  rintro _ ⟨o2,t4,rfl,hc,_⟩
  exact Ans.cond (fun _=>mk hc) fun _=> .ret ⟨_,_,rfl,hc,show l.length≤100 by omega⟩

end Go.Proofs.YtmlahgmhbdpkjaaGreatDoor.Plain
