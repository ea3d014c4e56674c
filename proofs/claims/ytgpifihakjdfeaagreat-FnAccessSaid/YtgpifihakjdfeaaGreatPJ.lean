/- Plain laws of the printed functions: LawD. No condition beyond those that each lemma states. -/
import Derived.Test.YtgpifihakjdfeaaGreatPI
set_option linter.unusedVariables false
set_option linter.unusedSimpArgs false
namespace Go.Proofs.YtgpifihakjdfeaaGreat.Plain
open Go Go.Tev
def lockReadA (l:LockM) (a:Int):LockM×Int:=if lockOkM l then (readL l a,readLV l a)else (l,0)
def lockWriteA (l:LockM) (a v:Int):LockM:=if lockOkM l then writeL l a v else l
theorem implLockRead_a (l:LockM) (a:Int) (hs:lockOkS l.t) (hr:l.reads.length≤4398046511000):r40 (l.t,(a,()))=some (((lockReadA l a).1.t,((lockReadA l a).2,())),()):=by
 unfold r40 m40 lockReadA
 refine bind_step (copyLock_t l hs) (bind_step (implLockOk_ok l hs) ?_)
 show (bif !lockOkM l then _ else _)=_
 cases hk:lockOkM l with
 |false=>rfl
 |true=>
  refine bind_step (lockRead_ok l a (lockOkM_iff.1 hk) hr) ?_
  obtain ⟨a1,a2,a3,a4⟩:=readL_rows l a
  obtain ⟨b1,b2,b3,b4,b5,b6⟩:=readL_img l a
  rw[if_pos rfl]
  dsimp only
  generalize readL l a=m at*
  obtain ⟨f,p,x,c,⟨T,ct,sc,ad,pal,bl,tb,ds⟩,u,d,n,st,fr,sa,re⟩:=m
  obtain rfl:f=l.img:=b1
  obtain rfl:x=l.mem:=b2
  obtain rfl:p=l.pads:=b5
  obtain rfl:tb=l.ppu.table:=a1
  obtain rfl:ds=l.ppu.dots:=a2
  obtain rfl:fr=l.frames:=a3
  obtain rfl:sa=l.samples:=a4
  rfl
theorem specLockRead_a (l:LockM) (a:Int) (hs:lockOkS l.t) (hr:l.reads.length≤4398046511000):r41 (l.t,(a,()))=some (((lockReadA l a).1.t,((lockReadA l a).2,())),()):=by
 unfold r41 m41 lockReadA
 refine bind_step (l12Copy_t l hs) (bind_step (specLockOk_ok l hs) ?_)
 show (bif !lockOkM l then _ else _)=_
 cases hk:lockOkM l with
 |false=>rfl
 |true=>exact bind_step (l12Read_ok l a (lockOkM_iff.1 hk) hr) rfl
theorem implLockWrite_a (l:LockM) (a v:Int) (hs:lockOkS l.t):r45 (l.t,(a,(v,())))=some (((lockWriteA l a v).t,()),()):=by
 unfold r45 m45 lockWriteA
 refine bind_step (copyLock_t l hs) (bind_step (implLockOk_ok l hs) ?_)
 show (bif lockOkM l then _ else _)=_
 cases hk:lockOkM l with
 |false=>rfl
 |true=>
  refine bind_step (lockWrite_any l a v (lockOkM_iff.1 hk)) ?_
  obtain ⟨a1,a2,a3⟩:=writeL_rows l a v
  obtain ⟨b1,b2,b3,b4,b5,b6⟩:=writeL_img l a v
  rw[if_pos rfl]
  generalize writeL l a v=m at*
  obtain ⟨f,p,x,c,⟨T,ct,sc,ad,pal,bl,tb,ds⟩,u,d,n,st,fr,sa,re⟩:=m
  obtain rfl:f=l.img:=b1
  obtain rfl:p=l.pads:=b5
  obtain rfl:ds=l.ppu.dots:=a1
  obtain rfl:fr=l.frames:=a2
  obtain rfl:sa=l.samples:=a3
  obtain rfl:re=l.reads:=b4
  rfl
theorem specLockWrite_a (l:LockM) (a v:Int) (hs:lockOkS l.t):r46 (l.t,(a,(v,())))=some (((lockWriteA l a v).t,()),()):=by
 unfold r46 m46 lockWriteA
 refine bind_step (l12Copy_t l hs) (bind_step (specLockOk_ok l hs) ?_)
 show (bif !lockOkM l then _ else _)=_
 cases hk:lockOkM l with
 |false=>rfl
 |true=>exact bind_step (l12Write_any l a v (lockOkM_iff.1 hk)) rfl
theorem readL_room (l:LockM) (a:Int):(readL l a).reads.length=l.reads.length+(if (rgT a).1=2∨(rgT a).1=3∨(rgT a).1=4 then 1 else 0):=by
 unfold readL
 split
 ·rename_i h
  rw[if_pos (.inl h)];exact List.length_append
 ·split
  ·rename_i h
   rw[if_pos (.inr (.inl h))];exact List.length_append
  ·split
   ·rename_i h
    rw[if_pos (.inr (.inr h))];exact List.length_append
   ·rw[if_neg (by omega)];rfl
theorem l6DrawAddr_ok {b:List Int} {t:CurT} (h:Cur b t):Ans (r106 ((b,t),())) (Dr b fun _:Int=>True):=by
 unfold r106 m106
 refine (l1PickInt_ok h _ (by decide)).bind ?_
 rintro _ ⟨v,t1,rfl,hc,_⟩
 exact .ret ⟨_,_,rfl,hc,trivial⟩
theorem drawLockRead_ok {b:List Int} (hb:b.length≤1048576):Ans (r39 (b,())) fun r=> ∃(l:LockM) (a:Int),r=((l.t,(a,())),())∧lockOkS l.t∧l.reads.length≤1000:=by
 unfold r39 m39
 refine (l1New_ok b hb).bind ?_
 rintro _ ⟨t,rfl,hc⟩
 refine (l12Draw_ok hc).bind ?_
 rintro _ ⟨_,t1,rfl,hc,l,rfl,h1,h2⟩
 refine (l6DrawAddr_ok hc).bind ?_
 rintro _ ⟨a,t2,rfl,hc,_⟩
 exact .ret ⟨l,a,rfl,h1,h2⟩
theorem drawLockWrite_ok {b:List Int} (hb:b.length≤1048576):Ans (r44 (b,())) fun r=> ∃(l:LockM) (a v:Int),r=((l.t,(a,(v,()))),())∧lockOkS l.t∧l.reads.length≤1000:=by
 unfold r44 m44
 refine (l1New_ok b hb).bind ?_
 rintro _ ⟨t,rfl,hc⟩
 refine (l12Draw_ok hc).bind ?_
 rintro _ ⟨_,t1,rfl,hc,l,rfl,h1,h2⟩
 refine (l6DrawAddr_ok hc).bind ?_
 rintro _ ⟨a,t2,rfl,hc,_⟩
 refine (l1DrawInt_ok hc).bind ?_
 rintro _ ⟨v,t3,rfl,hc,_⟩
 exact .ret ⟨l,a,v,rfl,h1,h2⟩
theorem Ans.if_f {R:Type} {b:Bool} {x y:Option R} {P:R→Prop} (hb:b=false) (h:Ans y P):Ans (bif b then x else y) P:=by subst hb;exact h
theorem Ans.if_t {R:Type} {b:Bool} {x y:Option R} {P:R→Prop} (hb:b=true) (h:Ans x P):Ans (bif b then x else y) P:=by subst hb;exact h

end Go.Proofs.YtgpifihakjdfeaaGreat.Plain
