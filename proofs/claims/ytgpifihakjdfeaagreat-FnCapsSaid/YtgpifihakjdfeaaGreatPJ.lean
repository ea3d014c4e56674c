/- Plain laws of the printed functions: LawD. No condition beyond those that each lemma states. -/
import Derived.Test.YtgpifihakjdfeaaGreatPI
set_option linter.unusedVariables false
set_option linter.unusedSimpArgs false
namespace Go.Proofs.YtgpifihakjdfeaaGreat.Plain
open Go Go.Tev
theorem newRam_len:newMem.t.1.length≤4398046511104:=by
 show (List.replicate 512 (0:Int)).length≤_
 rw[List.length_replicate];omega
theorem memOk_bad {f:List (List Int)} (h: ¬ImgP f):memOk f newMem.t=false:=by
 cases hk:memOk f newMem.t
 ·rfl
 ·exact absurd (memOk_iff.1 hk).img h
theorem implPeek_bad (f:List (List Int)) (hf:small f) (h: ¬ImgP f) (a:Int):r208 ((f,()),(newMem.t,(a,())))=some (((0:Int),()),()):=by
 unfold r208 m208
 exact bind_step (by rw[implMemOk_ok f newMem.t hf newRam_len,memOk_bad h]) rfl
theorem specPeek_bad (f:List (List Int)) (hf:small f) (h: ¬ImgP f) (a:Int):r164 ((f,()),(newMem.t,(a,())))=some (((0:Int),()),()):=by
 unfold r164 m164
 exact bind_step (by rw[specMemOk_ok f newMem.t hf newRam_len,memOk_bad h]) rfl
theorem implCpuNew_a (f:List (List Int)) (hf:small f): ∃c:CpuM,r81 ((f,()),())=some ((c.t,()),())∧(ImgP f→c=newCpu f):=by
 by_cases h:ImgP f
 ·exact ⟨_,implCpuNew_ok f h,fun _=>rfl⟩
 ·refine ⟨⟨0,0,255,joinN 0 0,false,false,false,true⟩,?_,fun k=>absurd k h⟩
  unfold r81 m81
  refine bind_step (y:=((newMem.t,()),())) rfl ?_
  have kv:r147 ((f,()),(newMem.t,((65532:Int),())))=some ((joinN 0 0,()),()):=by
   unfold r147 m147
   exact bind_step (implPeek_bad f hf h _) (bind_step (implPeek_bad f hf h _) (bind_step (implJoin_ok ((0:Int),((0:Int),()))) rfl))
  exact bind_step kv rfl
theorem specCpuNew_a (f:List (List Int)) (hf:small f): ∃c:CpuM,r103 ((f,()),())=some ((c.t,()),())∧(ImgP f→c=newCpu f):=by
 by_cases h:ImgP f
 ·exact ⟨_,specCpuNew_ok f h,fun _=>rfl⟩
 ·refine ⟨⟨0,0,255,joinN 0 0,false,false,false,true⟩,?_,fun k=>absurd k h⟩
  unfold r103 m103
  refine bind_step (y:=((newMem.t,()),())) rfl ?_
  exact bind_step (specPeek_bad f hf h _) (bind_step (specPeek_bad f hf h _) (bind_step (specJoin_ok ((0:Int),((0:Int),()))) rfl))
def MadeP (f:List (List Int)) (p:List Int) (cap:Int):Prop:=ImgP f∧PadsP p∧1≤cap∧cap≤16
def newAble (f:List (List Int)) (p:List Int) (cap:Int):Bool:=imageOk f&&(padsOk p&&inR 1 16 cap)
theorem newAble_iff {f:List (List Int)} {p:List Int} {cap:Int}:newAble f p cap=true↔MadeP f p cap:=by
 unfold newAble MadeP
 rw[Bool.and_eq_true,Bool.and_eq_true,imageOk_iff,padsOk_iff,inR_iff]
def splitNewA (f:List (List Int)) (p:List Int) (cap:Int):Tup splitL×Bool:=if newAble f p cap then ((newS f p cap).t,true)else (split0,false)
def rawS (f:List (List Int)) (p:List Int) (cap:Int) (c:CpuM):SplitM:={newS f p cap with cpu:=c}
theorem small_nil:small ([]:List (List Int)):=⟨by decide,(fun l hl=>by cases hl),by decide⟩
theorem rawS_s (f:List (List Int)) (p:List Int) (cap:Int) (c:CpuM) (hf:small f) (hp:p.length≤1000000):splitOkS (rawS f p cap c).t:=
 (szS_iff _).2 ⟨hf,(by show p.length≤_;omega),newRam_len,(by show ([]:List Int).length≤_;decide),⟨⟨by show (List.replicate 16 (0:Int)).length≤_;decide,by show ([]:List Int).length≤_;decide⟩,by show ([]:List Rc).length≤_;decide,small_nil⟩,by show ([]:List Rc).length≤_;decide,by show ([]:List Int).length≤_;decide⟩
theorem rawS_ok {f:List (List Int)} {p:List Int} {cap:Int} {c:CpuM} (hc:ImgP f→c=newCpu f):splitOk (rawS f p cap c).t=newAble f p cap:=by
 cases h:newAble f p cap
 ·cases k:splitOk (rawS f p cap c).t
  ·rfl
  ·have k:=splitOk_iff.1 k
   have m:newAble f p cap=true:=newAble_iff.2 ⟨k.mem.img,k.pads,k.pic.ring.c0,k.pic.ring.c1⟩
   rw[h]at m
   cases m
 ·obtain ⟨a,b,d⟩:=newAble_iff.1 h
  obtain rfl:=hc a
  exact splitOk_iff.2 (newS_P a b d)
theorem specSplitNew_a (f:List (List Int)) (p:List Int) (cap:Int) (hf:small f) (hp:p.length≤1000000):r37 ((f,()),(p,(cap,())))=some (((splitNewA f p cap).1,((splitNewA f p cap).2,())),()):=by
 obtain ⟨c,k,hc⟩:=specCpuNew_a f hf
 unfold r37 m37 splitNewA
 refine bind_step (l12Image_ok f hf) ?_
 show (bif leN (0+p.length) (E.most .i)then _ else none)=_
 rw[leN_t (show 0+p.length≤E.most .i by simp only[E.most];omega),cond_true]
 refine bind_step (y:=((newMem.t,()),())) rfl (bind_step k (bind_step (y:=(((newL f p).ppu.t,()),())) rfl (bind_step (specSplitOk_ok (rawS f p cap c).t (rawS_s f p cap c hf hp)) ?_)))
 show (bif !splitOk (rawS f p cap c).t then _ else _)=_
 rw[rawS_ok hc]
 cases h:newAble f p cap
 ·rfl
 ·obtain rfl:=hc (newAble_iff.1 h).1
  rfl
theorem specOk_i (f:List (List Int)) (p:List Int) (cap:Int) (c:CpuM) (hf:small f) (hp:p.length≤1000000):r16 ((rawS f p cap c).t,())=some ((splitOk (rawS f p cap c).t,()),()):=
 implSplitOk_ok (rawS f p cap c).t (rawS_s f p cap c hf hp)
theorem implSplitNew_a (f:List (List Int)) (p:List Int) (cap:Int) (hf:small f) (hp:p.length≤1000000):r36 ((f,()),(p,(cap,())))=some (((splitNewA f p cap).1,((splitNewA f p cap).2,())),()):=by
 obtain ⟨c,k,hc⟩:=implCpuNew_a f hf
 unfold r36 m36 splitNewA
 have hr:r162 ((cap,([],())),())=some ((inR 1 16 cap,()),()):=by
  rw[implRingOk_ok _ (Nat.zero_le _)]
  have e:ringOk (cap,([],()))=inR 1 16 cap:=by
   cases h:inR 1 16 cap
   ·cases k:ringOk (cap,([],()))
    ·rfl
    ·have k:=ringOk_iff.1 k
     exact absurd (inR_iff.2 ⟨k.c0,k.c1⟩) (by rw[h];decide)
   ·obtain ⟨a,b⟩:=inR_iff.1 h
    exact ringOk_iff.2 (newRing_P ⟨a,b⟩)
  rw[e]
 have hn:r99 (cap,())=some (((bif inR 1 16 cap then (cap,([],()))else ((0:Int),(([]:List Rc),()))),(inR 1 16 cap,())),()):=by
  unfold r99 m99
  refine bind_step hr ?_
  dsimp only
  cases inR 1 16 cap<;>rfl
 have hk: ∀x:Int,r100 ((x,([],())),())=some (((x,([],())),()),()):=fun x=>copyRing_ok (x,([],())) (Nat.zero_le _)
 refine bind_step hn ?_
 refine bind_step (copyImage_ok f hf) (bind_step (copyInts_ok p (by omega)) (bind_step (y:=((newMem.t,()),())) rfl (bind_step k (bind_step (y:=(((newL f p).ppu.t,()),())) rfl ?_))))
 cases h:inR 1 16 cap
 ·refine bind_step (hk 0) (bind_step (hk 0) ?_)
  have e:newAble f p cap=false:=by unfold newAble;rw[h,Bool.and_false,Bool.and_false]
  rw[e]
  rfl
 ·refine bind_step (hk cap) (bind_step (hk cap) ?_)
  show (bif !true then _ else _)=_
  rw[Bool.not_true,cond_false]
  refine bind_step (specOk_i f p cap c hf hp) ?_
  show (bif !splitOk (rawS f p cap c).t then _ else _)=_
  rw[rawS_ok hc]
  cases h2:newAble f p cap
  ·rfl
  ·obtain rfl:=hc (newAble_iff.1 h2).1
   rfl
theorem played_run {u:SplitM} (h:BornP u) (hs:u.steps≤3000):lockRunA (newL u.img u.pads) u.steps=((lockOf u).t,u.steps):=by
 obtain ⟨k,hk,hr⟩:=h.run
 have hP:=h.sim.p
 unfold lockRunA
 rw[lockOkM_iff.2 (newL_P hP.mem.img hP.pads),if_pos rfl]
 have e:manyN u.steps=k:=by unfold manyN;split<;>omega
 rw[e,hr,hk]
theorem lockOf_S {u:SplitM} (h:BornP u) (hs:u.steps≤3000):lockOkS (lockOf u).t:=by
 have e:=played_run h hs
 have:=lockRunA_S (l:=newL u.img u.pads) (by show 0≤_;omega) u.steps
 rw[e]at this
 exact this
theorem fairA_n {s:SplitM} {n:Nat} (h:SplitP s) (hn:n≤3000):fairA s (n:Int)=((fairM n s).1.t,((fairM n s).2:Int)):=by
 unfold fairA
 rw[splitOk_iff.2 h,if_pos rfl]
 have e:manyN (n:Int)=n:=by unfold manyN;split<;>omega
 rw[e]
theorem Ans.if_f {R:Type} {b:Bool} {x y:Option R} {P:R→Prop} (hb:b=false) (h:Ans y P):Ans (bif b then x else y) P:=by subst hb;exact h
theorem Ans.if_t {R:Type} {b:Bool} {x y:Option R} {P:R→Prop} (hb:b=true) (h:Ans x P):Ans (bif b then x else y) P:=by subst hb;exact h
theorem bulk_le: ∀(g:List (List Int)),(∀b,b∈g→b.length≤256)→bulk g≤256*g.length
 | [],_=>Nat.le_refl _
 |b::g,h=>by
  have:=bulk_le g (fun b hg=>h b (List.mem_cons_of_mem _ hg))
  have:=h b List.mem_cons_self
  simp only[bulk,List.length_cons]
  omega
theorem small_of {g:List (List Int)} (hl:g.length≤8) (h: ∀b,b∈g→b.length≤256):small g:=by
 have:=bulk_le g h
 exact ⟨by omega,fun b hb=>by have:=h b hb;omega,by omega⟩
theorem small_set {g:List (List Int)} (hl:g.length≤8) (h: ∀b,b∈g→b.length≤256) (i:Nat) {l:List Int} (hi:l.length≤256):small (g.set i l):=
 small_of (by rw[List.length_set];exact hl) fun b hb=>by
  rcases List.mem_or_eq_of_mem_set hb with h1|h1
  ·exact h b h1
  ·rw[h1];exact hi
theorem l2Draw_ok {b:List Int} {t:CurT} (h:Cur b t):Ans (r97 ((b,t),())) (Dr b fun v:Tup [.sl true .n]=>small v.1):=by
 unfold r97 m97
 refine (l2DrawRight_ok h).bind ?_
 rintro _ ⟨⟨f,_⟩,t1,rfl,hc,hf,hl⟩
 have hf:ImgP f:=hf
 have hl:f.length≤3:=hl
 have hlo:=hf.lo
 have hb: ∀x,x∈f→x.length≤256:=fun x hx=>by have:=(hf.banks x hx).1;omega
 have e:rdE .n f 0=f[0]:=rdE_nat .n f 0 (by omega)
 have h0:(f[0]'(by omega)).length=256:=(hf.banks _ (List.getElem_mem _)).1
 refine (l1Below_ok hc 15).bind ?_
 rintro _ ⟨(q:Int),t2,rfl,hc,_,_⟩
 refine Ans.cond (fun _=> ?_) fun _=>Ans.cond (fun _=> ?_) fun _=>Ans.cond (fun _=> ?_) fun _=> ?_
 ·have c1:ltI 0 (lenI f)=true:=by rw[lenI_def];exact ltI_t (by omega)
  have c2:leI 1 (lenI (rdE .n f 0))=true:=by rw[e];show leI 1 ((f[0].length:Nat):Int)=true;exact leI_t (by omega)
  refine Ans.if_t c1 (Ans.if_t c2 (Ans.if_t c1 (Ans.if_t c2 ?_)))
  refine .ret ⟨_,_,rfl,hc,?_⟩
  show small (f.set 0 ((rdE .n f 0:List Int).drop 1))
  rw[e]
  exact small_set (by omega) hb 0 (by rw[List.length_drop];omega)
 ·have c1:ltI 0 (lenI f)=true:=by rw[lenI_def];exact ltI_t (by omega)
  refine Ans.if_t c1 ?_
  refine (l1PickInt_ok hc [-1,256] (by decide)).bind ?_
  rintro _ ⟨(w:Int),t3,rfl,hc,_⟩
  refine Ans.if_t (show ltI 3 (lenI (rdE .n f 0))=true by rw[e];show ltI 3 ((f[0].length:Nat):Int)=true;exact ltI_t (by omega)) ?_
  refine .ret ⟨_,_,rfl,hc,?_⟩
  show small (f.set 0 ((rdE .n f 0:List Int).set 3 w))
  rw[e]
  exact small_set (by omega) hb 0 (by rw[List.length_set];omega)
 ·exact .ret ⟨_,_,rfl,hc,small_nil⟩
 ·exact .ret ⟨_,_,rfl,hc,hf.small⟩
theorem pads_loop {b:List Int}: ∀(k:Nat) (i:Int) (l:List Int) (t:CurT),Cur b t→0≤i→i≤5→5-i<k→l.length+(5-i).toNat≤100→
  Ans (n98_0 r57 r161 r160 k () ((b,t),()) (l,(i,()))) fun r=> ∃(i':Int) (l':List Int) (t':CurT),r=(Sum.inl (l',(i',())),((b,t'),()))∧Cur b t'∧l'.length≤l.length+(5-i).toNat
 |0,_,_,_,_,_,h1,h2,_=>absurd h2 (by omega)
 |k+1,i,l,t,h,h0,h1,h2,hl=>by
  unfold n98_0 w98_0
  refine (l1Below_ok h 5).bind ?_
  rintro _ ⟨(v:Int),t1,rfl,hc,hv,_⟩
  have hv:=hv (by decide)
  dsimp only
  by_cases hi:i<v
  ·refine Ans.if_t (ltI_t hi) ?_
   refine (l1Below_ok hc 256).bind ?_
   rintro _ ⟨(w:Int),t2,rfl,hc,_⟩
   refine Ans.if_t (leN_t (show l.length+[w].length≤E.most .i by show l.length+1≤17592186044416;omega)) ?_
   dsimp only
   rw[wI_id (x:=i+1) (by omega) (by omega)]
   have hl':(l++[w]).length=l.length+1:=by rw[List.length_append,List.length_singleton]
   refine (pads_loop k (i+1) (l++[w]) t2 hc (by omega) (by omega) (by omega) (by omega)).mono ?_
   rintro _ ⟨i',l',t',rfl,hc,hn⟩
   exact ⟨i',l',t',rfl,hc,by omega⟩
  ·exact Ans.if_f (ltI_f hi) (.ret ⟨_,_,_,rfl,hc,Nat.le_add_right _ _⟩)
theorem l11DrawPads_ok {b:List Int} {t:CurT} (h:Cur b t):Ans (r98 ((b,t),())) (Dr b fun v:List Int=>v.length≤100):=by
 unfold r98 m98
 refine (pads_loop fuel 0 [] t h (by omega) (by omega) (by have:=fuel_big;omega) (by show 0+5≤100;omega)).bind ?_
 rintro _ ⟨i,l,t1,rfl,hc,hl⟩
 have hl:l.length≤0+5:=hl
 have mk: ∀{t:CurT} (hc:Cur b t),Ans ((r57 ((b,t),((2:Int),()))).bind fun r5=>bif leI (0:Int) (wI ((20:Int)+r5.1.1))then (bif leN (Int.toNat (wI ((20:Int)+r5.1.1))) (E.most .i)then some ((List.replicate (Int.toNat (wI ((20:Int)+r5.1.1))) (0:Int),()),((b,r5.2.1.2),()))else none)else none) (Dr b fun v:List Int=>v.length≤100):=fun hc=>by
  refine (l1Below_ok hc 2).bind ?_
  rintro _ ⟨(w:Int),t4,rfl,hc,hw,_⟩
  have hw:=hw (by decide)
  dsimp only
  rw[wI_id (x:=20+w) (by omega) (by omega)]
  refine Ans.if_t (leI_t (by omega)) (Ans.if_t (leN_t (show (20+w).toNat≤E.most .i by show (20+w).toNat≤17592186044416;omega)) (.ret ⟨_,_,rfl,hc,?_⟩))
  show (List.replicate (20+w).toNat (0:Int)).length≤100
  rw[List.length_replicate];omega
 refine (l1Once_ok hc 30).bind ?_
 rintro _ ⟨o,t2,rfl,hc,_⟩
 refine Ans.cond (fun _=> ?_) fun _=> ?_
 ·refine (l1PickInt_ok hc [-1,256] (by decide)).bind ?_
  rintro _ ⟨(w:Int),t3,rfl,hc,_⟩
  refine Ans.if_t (leN_t (show l.length+[w].length≤E.most .i by show l.length+1≤17592186044416;omega)) ?_
  refine (l1Once_ok hc 40).bind ?_
  rintro _ ⟨o2,t4,rfl,hc,_⟩
  refine Ans.cond (fun _=>mk hc) fun _=> .ret ⟨_,_,rfl,hc,?_⟩
  show (l++[w]).length≤100
  rw[List.length_append,List.length_singleton];omega
 ·refine (l1Once_ok hc 40).bind ?_
  rintro _ ⟨o2,t4,rfl,hc,_⟩
  exact Ans.cond (fun _=>mk hc) fun _=> .ret ⟨_,_,rfl,hc,show l.length≤100 by omega⟩
theorem drawSplitNew_ok {b:List Int} (hb:b.length≤1048576):Ans (r35 (b,())) fun r=> ∃(f:List (List Int)) (p:List Int) (cap:Int),r=(((f,()),(p,(cap,()))),())∧small f∧p.length≤100:=by
 unfold r35 m35
 refine (l1New_ok b hb).bind ?_
 rintro _ ⟨t,rfl,hc⟩
 refine (l2Draw_ok hc).bind ?_
 rintro _ ⟨⟨f,_⟩,t1,rfl,hc,hf⟩
 refine (l11DrawPads_ok hc).bind ?_
 rintro _ ⟨(p:List Int),t2,rfl,hc,hp⟩
 refine (l1Below_ok hc 19).bind ?_
 rintro _ ⟨(v:Int),t3,rfl,hc,_⟩
 exact .ret ⟨f,p,_,rfl,hf,hp⟩

end Go.Proofs.YtgpifihakjdfeaaGreat.Plain
