/- Plain laws of the printed functions: LawD. No condition beyond those that each lemma states. -/
import Derived.Test.YtmlahgmhbdpkjaaGreatDoorPI
set_option linter.unusedVariables false
set_option linter.unusedSimpArgs false
namespace Go.Proofs.YtmlahgmhbdpkjaaGreatDoor.Plain
open Go Go.Tev
theorem ZfL:Za4.t.1.length≤4398046511104:=by
 show (List.replicate 512 (0:Int)).length≤_
 rw[List.length_replicate];omega
theorem ZjC {f:List (List Int)} (h: ¬ImgP f):ZhR f Za4.t=false:=by
 cases hk:ZhR f Za4.t
 ·rfl
 ·exact absurd (Zd2.1 hk).img h
theorem Zf5 (f:List (List Int)) (hf:small f) (h: ¬ImgP f) (a:Int):r160 ((f,()),(Za4.t,(a,())))=some (((0:Int),()),()):=by
 unfold r160 m160
 exact Zaa (by rw[ZdY f Za4.t hf ZfL,ZjC h]) rfl
theorem Zge (f:List (List Int)) (hf:small f) (h: ¬ImgP f) (a:Int):r115 ((f,()),(Za4.t,(a,())))=some (((0:Int),()),()):=by
 unfold r115 m115
 exact Zaa (by rw[Zd8 f Za4.t hf ZfL,ZjC h]) rfl
theorem Zjl (f:List (List Int)) (hf:small f): ∃c:CpuM,r69 ((f,()),())=some ((c.t,()),())∧(ImgP f→c=Zf9 f):=by
 by_cases h:ImgP f
 ·exact ⟨_,ZiF f h,fun _=>rfl⟩
 ·refine ⟨⟨0,0,255,Zg7 0 0,false,false,false,true⟩,?_,fun k=>absurd k h⟩
  unfold r69 m69
  refine Zaa (y:=((Za4.t,()),())) rfl ?_
  have kv:r124 ((f,()),(Za4.t,((65532:Int),())))=some ((Zg7 0 0,()),()):=by
   unfold r124 m124
   exact Zaa (Zf5 f hf h _) (Zaa (Zf5 f hf h _) (Zaa (Zg2 ((0:Int),((0:Int),()))) rfl))
  exact Zaa kv rfl
theorem ZjV (f:List (List Int)) (hf:small f): ∃c:CpuM,r62 ((f,()),())=some ((c.t,()),())∧(ImgP f→c=Zf9 f):=by
 by_cases h:ImgP f
 ·exact ⟨_,ZiS f h,fun _=>rfl⟩
 ·refine ⟨⟨0,0,255,Zg7 0 0,false,false,false,true⟩,?_,fun k=>absurd k h⟩
  unfold r62 m62
  refine Zaa (y:=((Za4.t,()),())) rfl ?_
  exact Zaa (Zge f hf h _) (Zaa (Zge f hf h _) (Zaa (Zhu ((0:Int),((0:Int),()))) rfl))
def Zpc (f:List (List Int)) (p:List Int) (cap:Int):Prop:=ImgP f∧Zmu p∧1≤cap∧cap≤16
def ZbR (f:List (List Int)) (p:List Int) (cap:Int):Bool:=Zdy f&&(Zfd p&&inR 1 16 cap)
theorem ZcG {f:List (List Int)} {p:List Int} {cap:Int}:ZbR f p cap=true↔Zpc f p cap:=by
 unfold ZbR Zpc
 rw[Bool.and_eq_true,Bool.and_eq_true,ZgZ,ZfN,Zbd]
def Zcf (f:List (List Int)) (p:List Int) (cap:Int):Tup Zbb×Bool:=if ZbR f p cap then ((newS f p cap).t,true)else (Zlq,false)
def rawS (f:List (List Int)) (p:List Int) (cap:Int) (c:CpuM):ZdP:={newS f p cap with cpu:=c}
theorem Zng:small ([]:List (List Int)):=⟨by decide,(fun l hl=>by cases hl),by decide⟩
theorem Zon (f:List (List Int)) (p:List Int) (cap:Int) (c:CpuM) (hf:small f) (hp:p.length≤2000000):Zbt (rawS f p cap c).t:=
 (Zo5 _).2 ⟨hf,(by show p.length≤_;omega),ZfL,(by show ([]:List Int).length≤_;decide),⟨⟨by show (List.replicate 16 (0:Int)).length≤_;decide,by show ([]:List Int).length≤_;decide⟩,by show ([]:List Rc).length≤_;decide,Zng⟩,by show ([]:List Rc).length≤_;decide,by show ([]:List Int).length≤_;decide⟩
theorem Zna {f:List (List Int)} {p:List Int} {cap:Int} {c:CpuM} (hc:ImgP f→c=Zf9 f):ZcI (rawS f p cap c).t=ZbR f p cap:=by
 cases h:ZbR f p cap
 ·cases k:ZcI (rawS f p cap c).t
  ·rfl
  ·have k:=Zhx.1 k
   have m:ZbR f p cap=true:=ZcG.2 ⟨k.mem.img,k.pads,k.pic.ring.c0,k.pic.ring.c1⟩
   rw[h]at m
   cases m
 ·obtain ⟨a,b,d⟩:=ZcG.1 h
  obtain rfl:=hc a
  exact Zhx.2 (Zok a b d)
theorem ZhY (f:List (List Int)) (p:List Int) (cap:Int) (hf:small f) (hp:p.length≤2000000):r20 ((f,()),(p,(cap,())))=some (((Zcf f p cap).1,((Zcf f p cap).2,())),()):=by
 obtain ⟨c,k,hc⟩:=ZjV f hf
 unfold r20 m20 Zcf
 refine Zaa (ZkB f hf) ?_
 show (bif leN (0+p.length) (E.most .i)then _ else none)=_
 rw[Zjw (show 0+p.length≤E.most .i by simp only[E.most];omega),cond_true]
 refine Zaa (y:=((Za4.t,()),())) rfl (Zaa k (Zaa (y:=(((newL f p).ppu.t,()),())) rfl (Zaa (ZhZ (rawS f p cap c).t (Zon f p cap c hf hp)) ?_)))
 show (bif !ZcI (rawS f p cap c).t then _ else _)=_
 rw[Zna hc]
 cases h:ZbR f p cap
 ·rfl
 ·obtain rfl:=hc (ZcG.1 h).1
  rfl
theorem Zn5 (f:List (List Int)) (p:List Int) (cap:Int) (c:CpuM) (hf:small f) (hp:p.length≤2000000):r16 ((rawS f p cap c).t,())=some ((ZcI (rawS f p cap c).t,()),()):=
 ZhP (rawS f p cap c).t (Zon f p cap c hf hp)
theorem ZhO (f:List (List Int)) (p:List Int) (cap:Int) (hf:small f) (hp:p.length≤2000000):r21 ((f,()),(p,(cap,())))=some (((Zcf f p cap).1,((Zcf f p cap).2,())),()):=by
 obtain ⟨c,k,hc⟩:=Zjl f hf
 unfold r21 m21 Zcf
 have hr:r123 ((cap,([],())),())=some ((inR 1 16 cap,()),()):=by
  rw[Ze5 _ (Nat.zero_le _)]
  have e:ZcW (cap,([],()))=inR 1 16 cap:=by
   cases h:inR 1 16 cap
   ·cases k:ZcW (cap,([],()))
    ·rfl
    ·have k:=Zcw.1 k
     exact absurd (Zbd.2 ⟨k.c0,k.c1⟩) (by rw[h];decide)
   ·obtain ⟨a,b⟩:=Zbd.1 h
    exact Zcw.2 (Zhc ⟨a,b⟩)
  rw[e]
 have hn:r65 (cap,())=some (((bif inR 1 16 cap then (cap,([],()))else ((0:Int),(([]:List Rc),()))),(inR 1 16 cap,())),()):=by
  unfold r65 m65
  refine Zaa hr ?_
  dsimp only
  cases inR 1 16 cap<;>rfl
 have hk: ∀x:Int,r71 ((x,([],())),())=some (((x,([],())),()),()):=fun x=>Zkj (x,([],())) (Nat.zero_le _)
 refine Zaa hn ?_
 refine Zaa (Zi7 f hf) (Zaa (ZgJ p (by omega)) (Zaa (y:=((Za4.t,()),())) rfl (Zaa k (Zaa (y:=(((newL f p).ppu.t,()),())) rfl ?_))))
 cases h:inR 1 16 cap
 ·refine Zaa (hk 0) (Zaa (hk 0) ?_)
  have e:ZbR f p cap=false:=by unfold ZbR;rw[h,Bool.and_false,Bool.and_false]
  rw[e]
  rfl
 ·refine Zaa (hk cap) (Zaa (hk cap) ?_)
  show (bif !true then _ else _)=_
  rw[Bool.not_true,cond_false]
  refine Zaa (Zn5 f p cap c hf hp) ?_
  show (bif !ZcI (rawS f p cap c).t then _ else _)=_
  rw[Zna hc]
  cases h2:ZbR f p cap
  ·rfl
  ·obtain rfl:=hc (ZcG.1 h2).1
   rfl
theorem Zmz: ∀(g:List (List Int)),(∀b,b∈g→b.length≤256)→bulk g≤256*g.length
 | [],_=>Nat.le_refl _
 |b::g,h=>by
  have:=Zmz g (fun b hg=>h b (List.mem_cons_of_mem _ hg))
  have:=h b List.mem_cons_self
  simp only[bulk,List.length_cons]
  omega
theorem Zn4 {g:List (List Int)} (hl:g.length≤8) (h: ∀b,b∈g→b.length≤256):small g:=by
 have:=Zmz g h
 exact ⟨by omega,fun b hb=>by have:=h b hb;omega,by omega⟩

end Go.Proofs.YtmlahgmhbdpkjaaGreatDoor.Plain
