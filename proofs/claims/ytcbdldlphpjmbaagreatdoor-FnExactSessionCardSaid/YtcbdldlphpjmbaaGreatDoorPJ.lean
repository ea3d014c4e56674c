/- Plain laws of the printed functions: LawD. No condition beyond those that each lemma states. -/
import Derived.Test.YtcbdldlphpjmbaaGreatDoorPI
set_option linter.unusedVariables false
set_option linter.unusedSimpArgs false
namespace Go.Proofs.YtcbdldlphpjmbaaGreatDoor.Plain
open Go Go.Tev
theorem Zeh:Jb.t.1.length≤4398046511104:=by
 show (List.replicate 512 (0:Int)).length≤_;rw[List.length_replicate];omega
theorem Zjh {f:List (List Int)} (h: ¬Yn f):Y4 f Jb.t=false:=by
 cases hk:Y4 f Jb.t
 ·rfl
 ·exact absurd (UA.1 hk).img h
theorem ZeE (f:List (List Int)) (hf:small f) (h: ¬Yn f) (a:Int):r179 ((f,()),(Jb.t,(a,())))=some (((0:Int),()),()):=by
 unfold r179 m179;exact Za (by rw[ZaV f Jb.t hf Zeh,Zjh h]) rfl
theorem ZeM (f:List (List Int)) (hf:small f) (h: ¬Yn f) (a:Int):r144 ((f,()),(Jb.t,(a,())))=some (((0:Int),()),()):=by
 unfold r144 m144;exact Za (by rw[Za4 f Jb.t hf Zeh,Zjh h]) rfl
theorem ZiZ (f:List (List Int)) (hf:small f): ∃c:Zp,r54 ((f,()),())=some ((c.t,()),())∧(Yn f→c=WM f):=by
 by_cases h:Yn f
 ·exact ⟨_,Zdf f h,fun _=>rfl⟩
 ·refine ⟨⟨0,0,255,Xm 0 0,false,false,false,true⟩,?_,fun k=>absurd k h⟩;unfold r54 m54;refine Za (y:=((Jb.t,()),())) rfl ?_;have kv:r111 ((f,()),(Jb.t,((65532:Int),())))=some ((Xm 0 0,()),()):=by
   unfold r111 m111;exact Za (ZeE f hf h _) (Za (ZeE f hf h _) (Za (Zak ((0:Int),((0:Int),()))) rfl))
  exact Za kv rfl
theorem ZjC (f:List (List Int)) (hf:small f): ∃c:Zp,r83 ((f,()),())=some ((c.t,()),())∧(Yn f→c=WM f):=by
 by_cases h:Yn f
 ·exact ⟨_,ZdI f h,fun _=>rfl⟩
 ·refine ⟨⟨0,0,255,Xm 0 0,false,false,false,true⟩,?_,fun k=>absurd k h⟩;unfold r83 m83;refine Za (y:=((Jb.t,()),())) rfl ?_;exact Za (ZeM f hf h _) (Za (ZeM f hf h _) (Za (ZaP ((0:Int),((0:Int),()))) rfl))
def Zq5 (f:List (List Int)) (p:List Int) (cap:Int):Prop:=Yn f∧YL p∧1≤cap∧cap≤16
def Xy (f:List (List Int)) (p:List Int) (cap:Int):Bool:=V1 f&&(XC p&&inR 1 16 cap)
theorem ZaM {f:List (List Int)} {p:List Int} {cap:Int}:Xy f p cap=true↔Zq5 f p cap:=by
 unfold Xy Zq5;rw[Bool.and_eq_true,Bool.and_eq_true,ZfD,UG,JE]
def WZ (f:List (List Int)) (p:List Int) (cap:Int):Tup QL×Bool:=if Xy f p cap then ((V6 f p cap).t,true)else (ZhG,false)
def Wc (f:List (List Int)) (p:List Int) (cap:Int) (c:Zp):Zh:={V6 f p cap with cpu:=c}
theorem Zoa:small ([]:List (List Int)):=⟨by decide,(fun l hl=>by cases hl),by decide⟩
theorem ZpV (f:List (List Int)) (p:List Int) (cap:Int) (c:Zp) (hf:small f) (hp:p.length≤2000000):ZX (Wc f p cap c).t:=
 (Zon _).2 ⟨hf,(by show p.length≤_;omega),Zeh,(by show ([]:List Int).length≤_;decide),⟨⟨by show (List.replicate 16 (0:Int)).length≤_;decide,by show ([]:List Int).length≤_;decide⟩,by show ([]:List Rc).length≤_;decide,Zoa⟩,by show ([]:List Rc).length≤_;decide,by show ([]:List Int).length≤_;decide⟩
theorem ZnU {f:List (List Int)} {p:List Int} {cap:Int} {c:Zp} (hc:Yn f→c=WM f):Z8 (Wc f p cap c).t=Xy f p cap:=by
 cases h:Xy f p cap
 ·cases k:Z8 (Wc f p cap c).t
  ·rfl
  ·have k:=JX.1 k;have m:Xy f p cap=true:=ZaM.2 ⟨k.mem.img,k.pads,k.pic.ring.c0,k.pic.ring.c1⟩;rw[h]at m;cases m
 ·obtain ⟨a,b,d⟩:=ZaM.1 h;obtain rfl:=hc a;exact JX.2 (ZpS a b d)
theorem Zg2 (f:List (List Int)) (p:List Int) (cap:Int) (hf:small f) (hp:p.length≤2000000):r34 ((f,()),(p,(cap,())))=some (((WZ f p cap).1,((WZ f p cap).2,())),()):=by
 obtain ⟨c,k,hc⟩:=ZjC f hf;unfold r34 m34 WZ;refine Za (Zal f hf) ?_;show (bif leN (0+p.length) (E.most .i)then _ else none)=_
 rw[ZP (show 0+p.length≤E.most .i by simp only[E.most];omega),Zb];refine Za (y:=((Jb.t,()),())) rfl (Za k (Za (y:=(((Y5 f p).ppu.t,()),())) rfl (Za (Vc (Wc f p cap c).t (ZpV f p cap c hf hp)) ?_)));show (bif !Z8 (Wc f p cap c).t then _ else _)=_
 rw[ZnU hc];cases h:Xy f p cap
 ·rfl
 ·obtain rfl:=hc (ZaM.1 h).1;rfl
theorem Zpu (f:List (List Int)) (p:List Int) (cap:Int) (c:Zp) (hf:small f) (hp:p.length≤2000000):r24 ((Wc f p cap c).t,())=some ((Z8 (Wc f p cap c).t,()),()):=
 Vr (Wc f p cap c).t (ZpV f p cap c hf hp)
theorem ZgU (f:List (List Int)) (p:List Int) (cap:Int) (hf:small f) (hp:p.length≤2000000):r23 ((f,()),(p,(cap,())))=some (((WZ f p cap).1,((WZ f p cap).2,())),()):=by
 obtain ⟨c,k,hc⟩:=ZiZ f hf;unfold r23 m23 WZ;have hr:r110 ((cap,([],())),())=some ((inR 1 16 cap,()),()):=by
  rw[Zdj _ (Nat.zero_le _)];have e:XD (cap,([],()))=inR 1 16 cap:=by
   cases h:inR 1 16 cap
   ·cases k:XD (cap,([],()))
    ·rfl
    ·have k:=ZaH.1 k;exact absurd (JE.2 ⟨k.c0,k.c1⟩) (by rw[h];decide)
   ·obtain ⟨a,b⟩:=JE.1 h;exact ZaH.2 (Zf3 ⟨a,b⟩)
  rw[e]
 have hn:r50 (cap,())=some (((bif inR 1 16 cap then (cap,([],()))else ((0:Int),(([]:List Rc),()))),(inR 1 16 cap,())),()):=by
  unfold r50 m50;refine Za hr ?_;dsimp only;cases inR 1 16 cap<;>rfl
 have hk: ∀x:Int,r56 ((x,([],())),())=some (((x,([],())),()),()):=fun x=>ZcQ (x,([],())) (Nat.zero_le _);refine Za hn ?_;refine Za (ZaR f hf) (Za (Xh p (by omega)) (Za (y:=((Jb.t,()),())) rfl (Za k (Za (y:=(((Y5 f p).ppu.t,()),())) rfl ?_))));cases h:inR 1 16 cap
 ·refine Za (hk 0) (Za (hk 0) ?_);have e:Xy f p cap=false:=by unfold Xy;rw[h,Bool.and_false,Bool.and_false]
  rw[e];rfl
 ·refine Za (hk cap) (Za (hk cap) ?_);show (bif !true then _ else _)=_
  rw[ZK,Zd];refine Za (Zpu f p cap c hf hp) ?_;show (bif !Z8 (Wc f p cap c).t then _ else _)=_
  rw[ZnU hc];cases h2:Xy f p cap
  ·rfl
  ·obtain rfl:=hc (ZaM.1 h2).1;rfl
theorem ZmW: ∀(g:List (List Int)),(∀b,b∈g→b.length≤256)→Wv g≤256*g.length
 | [],_=>Nat.le_refl _
 |b::g,h=>by
  have:=ZmW g (fun b hg=>h b (List.mem_cons_of_mem _ hg));have:=h b List.mem_cons_self;simp only[Wv,List.length_cons];omega
theorem Zpt {g:List (List Int)} (hl:g.length≤8) (h: ∀b,b∈g→b.length≤256):small g:=by
 have:=ZmW g h;exact ⟨by omega,fun b hb=>by have:=h b hb;omega,by omega⟩

end Go.Proofs.YtcbdldlphpjmbaaGreatDoor.Plain
