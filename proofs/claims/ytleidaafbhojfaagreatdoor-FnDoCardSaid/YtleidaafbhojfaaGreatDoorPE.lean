/- Plain laws of the printed functions: LockI, LockJ, LockK, LockL, TwinI. No condition beyond those that each lemma states. -/
import Derived.Test.YtleidaafbhojfaaGreatDoorPD
set_option linter.unusedVariables false
set_option linter.unusedSimpArgs false
namespace Go.Proofs.YtleidaafbhojfaaGreatDoor.Plain
open Go Go.Tev
theorem Zkk (l:Zm) (a:Int) (h:Z5 l) (hr:l.reads.length≤4398046511000):r372 (l.t,(a,()))=some ((KG l a,()),((Jp l a).t,())):=by
 have hl:leN (l.reads.length+1) (E.most .i)=true:=ZO (by simp only[E.most];omega)
 unfold r372 m372 Jp KG
 refine Za (WO (a,())) ?_
 show (bif eqI (rgT a).1 2 then _ else bif eqI (rgT a).1 3 then _ else bif eqI (rgT a).1 4 then _ else bif eqI (rgT a).1 7 then _ else _)=_
 by_cases c2:(rgT a).1=2
 ·rw[Zi c2,if_pos c2,if_pos c2,cond_true]
  refine Za (Zoc l.ppu h.ppu (rgT a).2) ?_
  obtain ⟨e1,e2⟩:=Zcs l.ppu (rgT a).2
  generalize Jq l.ppu (rgT a).2=q at e1 e2⊢
  obtain ⟨T,c,sc,ad,pal,bl,tb,ds⟩:=q
  have e1:tb=l.ppu.table:=e1
  have e2:ds=l.ppu.dots:=e2
  subst e1 e2
  show (bif leN (l.reads.length+1) (E.most .i)then _ else none)=_
  rw[hl];rfl
 rw[Zd c2,if_neg c2,if_neg c2,cond_false]
 by_cases c3:(rgT a).1=3
 ·rw[Zi c3,if_pos c3,if_pos c3,cond_true]
  refine Za (ZcB l.apu h.apu (rgT a).2) ?_
  show (bif leN (l.reads.length+1) (E.most .i)then _ else none)=_
  rw[hl];rfl
 rw[Zd c3,if_neg c3,if_neg c3,cond_false]
 by_cases c4:(rgT a).1=4
 ·rw[Zi c4,if_pos c4,if_pos c4,cond_true]
  refine Za (ZcC l.pad l.pads l.ppu.T h.pads h.ppu.t) ?_
  show (bif leN (l.reads.length+1) (E.most .i)then _ else none)=_
  rw[hl];rfl
 rw[Zd c4,if_neg c4,if_neg c4,cond_false]
 by_cases c7:(rgT a).1=7
 ·have hz:ZI l.img l.mem a=0:=by
   unfold ZI
   rw[if_neg (by omega),if_neg (by omega),if_neg (by omega)]
  rw[Zi c7,hz];rfl
 ·rw[Zd c7,cond_false]
  exact Za (V9 l.img l.mem a h.mem) rfl
theorem Zl9 (l:Zm) (a:Int) (h:Z5 l) (hr:l.reads.length≤4398046511000):r383 (l.t,(a,()))=some (((Jp l a).t,(KG l a,())),()):=by
 have hl:leN (l.reads.length+1) (E.most .i)=true:=ZO (by simp only[E.most];omega)
 unfold r383 m383 Jp KG
 refine Za (Wt (a,())) ?_
 show (bif eqI (rgT a).1 2 then _ else bif eqI (rgT a).1 3 then _ else bif eqI (rgT a).1 4 then _ else _)=_
 by_cases c2:(rgT a).1=2
 ·rw[Zi c2,if_pos c2,if_pos c2,cond_true]
  refine Za (ZcK l.ppu h.ppu (rgT a).2) ?_
  show (bif leN (l.reads.length+1) (E.most .i)then _ else none)=_
  rw[hl];rfl
 rw[Zd c2,if_neg c2,if_neg c2,cond_false]
 by_cases c3:(rgT a).1=3
 ·rw[Zi c3,if_pos c3,if_pos c3,cond_true]
  refine Za (ZcH l.apu h.apu (rgT a).2) ?_
  show (bif leN (l.reads.length+1) (E.most .i)then _ else none)=_
  rw[hl];rfl
 rw[Zd c3,if_neg c3,if_neg c3,cond_false]
 by_cases c4:(rgT a).1=4
 ·rw[Zi c4,if_pos c4,if_pos c4,cond_true]
  refine Za (ZcJ l.pad l.pads l.ppu.T h.pads h.ppu.t) ?_
  show (bif leN (l.reads.length+1) (E.most .i)then _ else none)=_
  rw[hl];rfl
 rw[Zd c4,if_neg c4,if_neg c4,cond_false]
 exact Za (Zb9 l.img l.mem a h.mem) rfl
theorem Zii (l:Zm) (a v:Int) (h:Z5 l):r373 (l.t,(a,(v,())))=some ((),((Jt l a v).t,())):=by
 unfold r373 m373 Jt
 refine Za (WO (a,())) ?_
 show (bif eqI (rgT a).1 2 then _ else bif eqI (rgT a).1 3 then _ else bif eqI (rgT a).1 4 then _ else bif eqI (rgT a).1 1 then (bif eqI (rgT a).1 1 then _ else _)else bif eqI (rgT a).1 5 then (bif eqI (rgT a).1 5 then _ else _)else bif eqI (rgT a).1 6 then _ else _)=_
 by_cases c2:(rgT a).1=2
 ·rw[Zi c2,if_pos c2,cond_true]
  refine Za (ZlN l.ppu h.ppu (rgT a).2 v) ?_
  have e2:(Je l.ppu (rgT a).2 v).dots=l.ppu.dots:=Zc0 _ _ _
  generalize Je l.ppu (rgT a).2 v=q at e2⊢
  obtain ⟨T,c,sc,ad,pal,bl,tb,ds⟩:=q
  have e2:ds=l.ppu.dots:=e2
  subst e2
  rfl
 rw[Zd c2,if_neg c2,cond_false]
 by_cases c3:(rgT a).1=3
 ·rw[Zi c3,if_pos c3,cond_true]
  exact Za (ZbQ l.apu h.apu (rgT a).2 v) rfl
 rw[Zd c3,if_neg c3,cond_false]
 by_cases c4:(rgT a).1=4
 ·rw[Zi c4,if_pos c4,cond_true]
  exact Za (ZbV l.pad l.pads l.ppu.T v h.pads h.ppu.t) rfl
 rw[Zd c4,if_neg c4,cond_false]
 have kp:=ZfA l.img l.mem a v h.mem
 by_cases c1:(rgT a).1=1
 ·rw[Zi c1,cond_true,cond_true]
  exact Za kp rfl
 rw[Zd c1,cond_false]
 by_cases c5:(rgT a).1=5
 ·rw[Zi c5,cond_true,cond_true]
  exact Za kp rfl
 rw[Zd c5,cond_false]
 by_cases c6:(rgT a).1=6
 ·rw[Zi c6,cond_true]
  exact Za kp rfl
 ·rw[Zd c6,cond_false]
  have e:KF l.img l.mem a v=l.mem:=by
   unfold KF
   rw[if_neg c1,if_neg (by omega)]
  rw[e]
theorem Zjk (l:Zm) (a v:Int) (h:Z5 l) (_:0≤v∧v≤255):r373 (l.t,(a,(v,())))=some ((),((Jt l a v).t,())):=Zii l a v h
theorem Zi7 (l:Zm) (a v:Int) (h:Z5 l):r384 (l.t,(a,(v,())))=some (((Jt l a v).t,()),()):=by
 unfold r384 m384 Jt
 refine Za (Wt (a,())) ?_
 show (bif eqI (rgT a).1 2 then _ else bif eqI (rgT a).1 3 then _ else bif eqI (rgT a).1 4 then _ else _)=_
 by_cases c2:(rgT a).1=2
 ·rw[Zi c2,if_pos c2,cond_true]
  exact Za (Zca l.ppu h.ppu (rgT a).2 v) rfl
 rw[Zd c2,if_neg c2,cond_false]
 by_cases c3:(rgT a).1=3
 ·rw[Zi c3,if_pos c3,cond_true]
  exact Za (Zb3 l.apu h.apu (rgT a).2 v) rfl
 rw[Zd c3,if_neg c3,cond_false]
 by_cases c4:(rgT a).1=4
 ·rw[Zi c4,if_pos c4,cond_true]
  exact Za (Zb8 l.pad l.pads l.ppu.T v h.pads h.ppu.t) rfl
 rw[Zd c4,if_neg c4,cond_false]
 exact Za (Zgi l.img l.mem a v h.mem) rfl
theorem Zkf (l:Zm) (a v:Int) (h:Z5 l) (_:0≤v∧v≤255):r384 (l.t,(a,(v,())))=some (((Jt l a v).t,()),()):=Zi7 l a v h
theorem Zez (l:Zm) (v:Int) (h:Z5 l) (hv:65530≤v∧v≤65534):r337 (l.t,(v,()))=some ((),((Jx l v).t,())):=by
 unfold r337 m337
 have e:wI (v+1)=v+1:=Zj (by omega) (by omega)
 have k:=V9 l.img l.mem (v+1) h.mem
 rw[←e]at k
 refine Za (V9 l.img l.mem v h.mem) (Za k (Za (ZaH (ZI l.img l.mem v,(ZI l.img l.mem (wI (v+1)),()))) (Za (Zk0 l.mem l.cpu (Kw (ZI l.img l.mem v) (ZI l.img l.mem (wI (v+1)))) h.mem.ram h.cpu) ?_)))
 rw[e];rfl
theorem Zhp (l:Zm) (a:Int):(Jp l a).ppu.table=l.ppu.table∧(Jp l a).ppu.dots=l.ppu.dots∧(Jp l a).frames=l.frames∧(Jp l a).samples=l.samples:=by
 obtain ⟨e1,e2⟩:=Zcs l.ppu (rgT a).2
 unfold Jp
 repeat' split
 all_goals first|exact ⟨e1,e2,rfl,rfl⟩|exact ⟨rfl,rfl,rfl,rfl⟩
theorem Zgw (l:Zm) (a v:Int):(Jt l a v).ppu.dots=l.ppu.dots∧(Jt l a v).frames=l.frames∧(Jt l a v).samples=l.samples:=by
 have e2:(Je l.ppu (rgT a).2 v).dots=l.ppu.dots:=Zc0 _ _ _
 unfold Jt
 repeat' split
 all_goals first|exact ⟨e2,rfl,rfl⟩|exact ⟨rfl,rfl,rfl⟩
theorem Zlp (l:Zm) (op arg:Int):(opL l op arg).img=l.img∧(opL l op arg).pads=l.pads∧(opL l op arg).ppu.dots=l.ppu.dots∧(opL l op arg).frames=l.frames∧(opL l op arg).samples=l.samples:=by
 unfold opL
 split
 ·obtain ⟨f1,f2,f3,f4,f5,f6⟩:=Zf0 l (QQ op arg l.cpu.x)
  obtain ⟨g1,g2,g3,g4⟩:=Zhp l (QQ op arg l.cpu.x)
  exact ⟨f1,f5,g2,g3,g4⟩
 split
 ·obtain ⟨f1,f2,f3,f4,f5,f6⟩:=Zcw l (QQ op arg l.cpu.x) (l.cpu.a%256)
  obtain ⟨g1,g2,g3⟩:=Zgw l (QQ op arg l.cpu.x) (l.cpu.a%256)
  exact ⟨f1,f5,g1,g2,g3⟩
 ·exact ⟨rfl,rfl,rfl,rfl,rfl⟩
theorem ZnK (l:Zm) (op arg:Int) (h:Z5 l) (hr:l.reads.length≤4398046511000) (ha:0≤arg∧arg≤65535):r338 (l.t,((op,(arg,())),()))=some ((),((opL l op arg).t,())):=by
 unfold r338 m338 opL
 refine Za (Zay op arg l.cpu h.cpu ha) ?_
 show (bif eqI (ZG op) 1 then _ else bif eqI (ZG op) 2 then _ else _)=_
 by_cases o1:ZG op=1
 ·rw[Zi o1,if_pos o1,cond_true]
  refine Za (Zkk l (QQ op arg l.cpu.x) h hr) ?_
  have hv:=Zlw h (QQ op arg l.cpu.x)
  obtain ⟨f1,f2,f3,f4,f5,f6⟩:=Zf0 l (QQ op arg l.cpu.x)
  obtain ⟨g1,g2,g3,g4⟩:=Zhp l (QQ op arg l.cpu.x)
  generalize KG l (QQ op arg l.cpu.x)=v at hv⊢
  generalize Jp l (QQ op arg l.cpu.x)=l' at f1 f2 f3 f4 f5 f6 g1 g2 g3 g4⊢
  obtain ⟨img,pads,mem,cpu,⟨pT,pc,ps,pa,pp,pb,ptb,pds⟩,apu,pad,nmi,st,fr,sm,rd⟩:=l'
  have f1:img=l.img:=f1
  have f2:mem=l.mem:=f2
  have f3:cpu=l.cpu:=f3
  have f5:pads=l.pads:=f5
  have g1:ptb=l.ppu.table:=g1
  have g2:pds=l.ppu.dots:=g2
  have g3:fr=l.frames:=g3
  have g4:sm=l.samples:=g4
  subst f1 f2 f3 f5 g1 g2 g3 g4
  exact Za (ZdU l.mem l.cpu op arg v h.mem.ram h.cpu hv) rfl
 rw[Zd o1,if_neg o1,cond_false]
 by_cases o2:ZG op=2
 ·rw[Zi o2,if_pos o2,cond_true]
  have ev:YQ op l.cpu.a=l.cpu.a%256:=by unfold YQ;rw[if_pos o2]
  have kw:=Zjk l (QQ op arg l.cpu.x) (l.cpu.a%256) h (mod256 _)
  rw[←ev]at kw
  refine Za kw ?_
  rw[ev]
  have hq:=ZiC h (QQ op arg l.cpu.x) (l.cpu.a%256)
  obtain ⟨f1,f2,f3,f4,f5,f6⟩:=Zcw l (QQ op arg l.cpu.x) (l.cpu.a%256)
  obtain ⟨g1,g2,g3⟩:=Zgw l (QQ op arg l.cpu.x) (l.cpu.a%256)
  generalize Jt l (QQ op arg l.cpu.x) (l.cpu.a%256)=l' at hq f1 f2 f3 f4 f5 f6 g1 g2 g3⊢
  have h1:=hq.mem.ram
  have h2:=hq.cpu
  clear hq
  obtain ⟨img,pads,mem,cpu,⟨pT,pc,ps,pa,pp,pb,ptb,pds⟩,apu,pad,nmi,st,fr,sm,rd⟩:=l'
  have f1:img=l.img:=f1
  have f4:rd=l.reads:=f4
  have f5:pads=l.pads:=f5
  have g1:pds=l.ppu.dots:=g1
  have g2:fr=l.frames:=g2
  have g3:sm=l.samples:=g3
  subst f1 f4 f5 g1 g2 g3
  exact Za (ZdU mem cpu op arg 0 h1 h2 (by decide)) rfl
 ·rw[Zd o2,if_neg o2,cond_false]
  have ev:YQ op l.cpu.a=0:=by unfold YQ;rw[if_neg o2]
  have k:=ZdU l.mem l.cpu op arg 0 h.mem.ram h.cpu (by decide)
  rw[←ev]at k
  refine Za k ?_
  rw[ev];rfl
theorem ZjX {l:Zm} (h:Z5 l):leN (l.frames.length+1) (E.most .n)=true∧leN (l.samples.length+1) (E.most .i)=true:=by
 have h1:=h.frn
 have h2:=h.sam
 have h3:=h.ppu.t
 unfold YA at h1
 exact ⟨ZO (by simp only[E.most];omega),ZO (by simp only[E.most];omega)⟩
theorem Zkm (l:Zm) (h:Z5 l) (ht:l.ppu.T<20000):r339 (l.t,())=some ((),((Jh l).t,())):=by
 obtain ⟨hf,hs⟩:=ZjX h
 have kp:=ZoF l.ppu h.ppu ht
 have ka:=ZgR l.apu h.apu (by rw[h.t];exact ht)
 have et:=ZbF l.ppu
 unfold r339 m339
 refine Za kp ?_
 clear kp h ht
 unfold Jh
 obtain ⟨img,pads,mem,cpu,ppu,apu,pad,nmi,steps,frames,samples,reads⟩:=l
 dsimp only at hf hs ka et⊢
 generalize QX ppu=q at et⊢
 generalize Js ppu=b
 generalize JZ ppu=fr
 generalize Km ppu=aq
 generalize Yd apu=b2 at ka⊢
 generalize KJ apu=sa at ka⊢
 generalize KL apu=a' at ka⊢
 obtain ⟨T,c,sc,ad,pal,bl,tb,ds⟩:=q
 have et:tb=ppu.table:=et
 subst et
 cases b with
 |true=>
  show (bif leN (frames.length+1) (E.most .n)then (bif nmi then _ else _)else none)=_
  rw[hf,cond_true]
  cases nmi with
  |true=>
   rw[cond_true]
   refine Za ka ?_
   cases b2 with
   |true=>show (bif leN (samples.length+1) (E.most .i)then _ else none)=_;rw[hs];rfl
   |false=>rfl
  |false=>
   rw[cond_false]
   refine Za ka ?_
   cases b2 with
   |true=>show (bif leN (samples.length+1) (E.most .i)then _ else none)=_;rw[hs];rfl
   |false=>rfl
 |false=>
  show (bif nmi then _ else _)=_
  cases nmi with
  |true=>
   rw[cond_true]
   refine Za ka ?_
   cases b2 with
   |true=>show (bif leN (samples.length+1) (E.most .i)then _ else none)=_;rw[hs];rfl
   |false=>rfl
  |false=>
   rw[cond_false]
   refine Za ka ?_
   cases b2 with
   |true=>show (bif leN (samples.length+1) (E.most .i)then _ else none)=_;rw[hs];rfl
   |false=>rfl
theorem Zmb (l:Zm) (h:Z5 l) (ht:l.ppu.T<20000):r382 (l.t,())=some (((Jh l).t,()),()):=by
 obtain ⟨hf,hs⟩:=ZjX h
 have kp:=Zjf l.ppu h.ppu ht
 have ka:=Zg9 l.apu h.apu (by rw[h.t];exact ht)
 have eb:eqI (Int.tmod l.ppu.T 64) 48=Js l.ppu:=by rw[Qt h.ppu.t.1];rfl
 unfold r382 m382
 refine Za kp (Za ka ?_)
 clear kp ka h ht
 unfold Jh
 obtain ⟨img,pads,mem,cpu,ppu,apu,pad,nmi,steps,frames,samples,reads⟩:=l
 dsimp only at hf hs eb⊢
 show (bif eqI (Int.tmod ppu.T 64) 48 then (bif leN (frames.length+1) (E.most .n)then (bif Yd apu then (bif leN (samples.length+1) (E.most .i)then (bif nmi then _ else _)else none)else bif nmi then _ else _)else none)else bif Yd apu then (bif leN (samples.length+1) (E.most .i)then (bif nmi then _ else _)else none)else bif nmi then _ else _)=_
 rw[eb,hf,hs]
 generalize Js ppu=b
 generalize Yd apu=b2
 cases b<;>cases b2<;>cases nmi<;>rfl
theorem Zar: ∀(n:Nat) (l:Zm),(ZU n l).img=l.img∧(ZU n l).pads=l.pads∧(ZU n l).mem=l.mem∧(ZU n l).ppu.table=l.ppu.table∧(ZU n l).reads=l.reads
 |0,l=>⟨rfl,rfl,rfl,rfl,rfl⟩
 |n+1,l=>by
  obtain ⟨a,b,c,d,e⟩:=Zar n (Jh l)
  exact ⟨a,b,c,d.trans (ZbF l.ppu),e⟩
theorem ZcF (c:Int) (hc:c≤7): ∀(d k:Nat) (i:Int) (l:Zm),0≤i→i+d=c→d<k→Z5 l→l.ppu.T+d≤20000→
  n285_0 r337 r338 r339 r258 r255 k (c,()) (l.t,()) (i,())=some (Sum.inl (c,()),((ZU d l).t,()))
 |_,0,_,_,_,_,h,_,_=>absurd h (by omega)
 |0,k+1,i,l,h0,hi,_,_,_=>by
  show (bif ltI i c then _ else some (Sum.inl (i,()),(l.t,())))=_
  rw[Zp (by omega),cond_false,show i=c by omega];rfl
 |d+1,k+1,i,l,h0,hi,hk,h,ht=>by
  show (bif ltI i c then (r339 (l.t,())).bind _ else _)=_
  rw[Zf (by omega),cond_true]
  refine Za (Zkm l h (by omega)) ?_
  have e:wI (i+1)=i+1:=Zj (by omega) (by omega)
  have ih:=ZcF c hc d k (i+1) (Jh l) (by omega) (by omega) (by omega) (ZkS h (by omega)) (by rw[Zgq];omega)
  rw[←e]at ih
  show _=some (Sum.inl (c,()),((ZU d (Jh l)).t,()))
  generalize ZU d (Jh l)=z at ih⊢
  have e1:(Jh l).ppu.table=l.ppu.table:=ZbF _
  have e2:(Jh l).img=l.img:=rfl
  have e3:(Jh l).pads=l.pads:=rfl
  have e4:(Jh l).mem=l.mem:=rfl
  have e5:(Jh l).reads=l.reads:=rfl
  generalize Jh l=l' at ih e1 e2 e3 e4 e5⊢
  obtain ⟨img,pads,mem,cpu,⟨pT,pc,ps,pa,pp,pb,ptb,pds⟩,apu,pad,nmi,st,fr,sm,rd⟩:=l'
  have e1:ptb=l.ppu.table:=e1
  have e2:img=l.img:=e2
  have e3:pads=l.pads:=e3
  have e4:mem=l.mem:=e4
  have e5:rd=l.reads:=e5
  subst e1 e2 e3 e4 e5
  exact ih
theorem Zdh (c:Int) (hc:c≤7): ∀(d k:Nat) (i:Int) (l:Zm),0≤i→i+d=c→d<k→Z5 l→l.ppu.T+d≤20000→
  n374_0 r381 r382 k (c,()) (l.t,()) (i,())=some (Sum.inl (c,()),((ZU d l).t,()))
 |_,0,_,_,_,_,h,_,_=>absurd h (by omega)
 |0,k+1,i,l,h0,hi,_,_,_=>by
  show (bif ltI i c then _ else some (Sum.inl (i,()),(l.t,())))=_
  rw[Zp (by omega),cond_false,show i=c by omega];rfl
 |d+1,k+1,i,l,h0,hi,hk,h,ht=>by
  show (bif ltI i c then (r382 (l.t,())).bind _ else _)=_
  rw[Zf (by omega),cond_true]
  refine Za (Zmb l h (by omega)) ?_
  have e:wI (i+1)=i+1:=Zj (by omega) (by omega)
  have ih:=Zdh c hc d k (i+1) (Jh l) (by omega) (by omega) (by omega) (ZkS h (by omega)) (by rw[Zgq];omega)
  rw[←e]at ih
  exact ih
theorem ZfN (m:Zm) (c:Int) (hc:2≤c∧c≤7) (h:Z5 m) (ht:m.ppu.T+c≤20000):L285_0 (c,()) (m.t,()) (0,())=some (Sum.inl (c,()),((ZU c.toNat m).t,())):=
 ZcF c hc.2 c.toNat fuel 0 m (by omega) (by omega) (by have:=ZQ;omega) h (by omega)
theorem Zpk (m:Zm) (c:Int) (hc:2≤c∧c≤7) (h:Z5 m) (ht:m.ppu.T+c≤20000):L374_0 (c,()) (m.t,()) (0,())=some (Sum.inl (c,()),((ZU c.toNat m).t,())):=
 Zdh c hc.2 c.toNat fuel 0 m (by omega) (by omega) (by have:=ZQ;omega) h (by omega)
def Kg (l:Zm):Zm:=if QH l then QF l else l
theorem ZeY {m:Zm} {n:Nat} (h:Z5 m) (ht:m.ppu.T+n≤20000):wI ((ZU n m).steps+1)=(ZU n m).steps+1:=by
 obtain ⟨a,b,c,d⟩:=Ziz h ht
 have:=a.s0
 have:=a.s1
 exact Zj (by omega) (by omega)
theorem ZcZ {l:Zm} (hm:QH l=true) {m:Zm} (hd:doL l=m) {c:Int} (hc:Qz l=c):Kg l={(ZU c.toNat m)with steps:=(ZU c.toNat m).steps+1}:=by
 unfold Kg
 rw[if_pos hm]
 unfold QF
 rw[hc,hd]
theorem Zkl (l:Zm) (h:Z5 l) (hr:l.reads.length≤4398046511000):r285 (l.t,())=some ((QH l,()),((Kg l).t,())):=by
 have kf:=Zci l.img l.mem l.cpu.pc h.mem h.cpu.pc
 have kc:=Zaa (Qg l,())
 have hb:=Zff l
 have hT:=h.ppu.t
 have hP:=Zqv h
 have hdt:=Zqw l
 have ho:=UD (Qg l)
 unfold r285 m285
 show (bif l.nmi then _ else bif l.apu.irq then _ else _)=_
 cases hn:l.nmi with
 |true=>
  have hc:Qz l=7:=by unfold Qz XG;rw[hn];rfl
  have hd:doL l=Jx {l with nmi:=false} 65530:=by unfold doL;rw[hn];rfl
  have ew:wI (l.ppu.T+7)=l.ppu.T+7:=Zj (by omega) (by omega)
  rw[cond_true]
  refine Za kf (Za kc ?_)
  show (bif ltI 20000 (wI (l.ppu.T+7))then _ else bif l.nmi then _ else _)=_
  rw[ew,hn,cond_true]
  by_cases hm:l.ppu.T+7≤20000
  ·have hmay:QH l=true:=decide_eq_true (by rw[hc];exact hm)
   rw[Zp (by omega),cond_false]
   refine Za (Zez {l with nmi:=false} 65530 ⟨h.mem,h.pads,h.cpu,h.ppu,h.apu,h.pad,h.t,h.s0,h.s1,h.fr,h.frn,h.sam⟩ (by omega)) ?_
   rw[hd]at hP
   have hq:(Jx {l with nmi:=false} 65530).ppu.T+7≤20000:=hm
   have kt:L285_0 (7,()) ((Jx {l with nmi:=false} 65530).t,()) (0,())=some (Sum.inl (7,()),((ZU 7 (Jx {l with nmi:=false} 65530)).t,())):=ZfN (Jx {l with nmi:=false} 65530) 7 (by omega) hP hq
   refine Za kt ?_
   clear kt
   have hw:=ZeY (n:=7) hP hq
   obtain ⟨r1,r2,r3,r4,r5⟩:=Zar 7 (Jx {l with nmi:=false} 65530)
   rw[hmay,ZcZ hmay hd hc]
   show _=some ((true,()),(Zm.t {(ZU 7 (Jx {l with nmi:=false} 65530))with steps:=(ZU 7 (Jx {l with nmi:=false} 65530)).steps+1},()))
   rw[←hw]
   generalize ZU 7 (Jx {l with nmi:=false} 65530)=q at r1 r2 r3 r4 r5⊢
   obtain ⟨img,pads,mem,cpu,⟨pT,pc,ps,pa,pp,pb,ptb,pds⟩,apu,pad,nmi,st,fr,sm,rd⟩:=q
   have r1:img=l.img:=r1
   have r2:pads=l.pads:=r2
   have r3:mem=XK l.mem l.cpu:=r3
   have r4:ptb=l.ppu.table:=r4
   have r5:rd=l.reads:=r5
   subst r1 r2 r3 r4 r5
   rfl
  ·have hmay:QH l=false:=decide_eq_false (by rw[hc];exact hm)
   rw[Zf (by omega),cond_true,hmay]
   unfold Kg
   rw[hmay,if_neg (by simp)]
 |false=>
  rw[cond_false]
  by_cases hq:l.apu.irq=true∧l.cpu.i=false
  ·obtain ⟨hirq,hi⟩:=hq
   have hc:Qz l=7:=by unfold Qz XG;rw[hn,hirq,hi];rfl
   have hd:doL l=Jx l 65534:=by unfold doL;rw[hn,hirq,hi];rfl
   have ew:wI (l.ppu.T+7)=l.ppu.T+7:=Zj (by omega) (by omega)
   rw[hirq,cond_true]
   refine Za kf (Za kc ?_)
   show (bif !l.cpu.i then (bif ltI 20000 (wI (l.ppu.T+7))then _ else bif l.nmi then _ else bif !l.cpu.i then _ else _)else _)=_
   rw[ew,hn,hi,Bool.not_false,cond_true,cond_false,cond_true]
   by_cases hm:l.ppu.T+7≤20000
   ·have hmay:QH l=true:=decide_eq_true (by rw[hc];exact hm)
    rw[Zp (by omega),cond_false]
    refine Za (Zez l 65534 h (by omega)) ?_
    rw[hd]at hP
    have hq:(Jx l 65534).ppu.T+7≤20000:=hm
    have kt:L285_0 (7,()) ((Jx l 65534).t,()) (0,())=some (Sum.inl (7,()),((ZU 7 (Jx l 65534)).t,())):=ZfN (Jx l 65534) 7 (by omega) hP hq
    refine Za kt ?_
    clear kt
    have hw:=ZeY (n:=7) hP hq
    obtain ⟨r1,r2,r3,r4,r5⟩:=Zar 7 (Jx l 65534)
    rw[hmay,ZcZ hmay hd hc]
    show _=some ((true,()),(Zm.t {(ZU 7 (Jx l 65534))with steps:=(ZU 7 (Jx l 65534)).steps+1},()))
    rw[←hw]
    generalize ZU 7 (Jx l 65534)=q at r1 r2 r3 r4 r5⊢
    obtain ⟨img,pads,mem,cpu,⟨pT,pc,ps,pa,pp,pb,ptb,pds⟩,apu,pad,nmi,st,fr,sm,rd⟩:=q
    have r1:img=l.img:=r1
    have r2:pads=l.pads:=r2
    have r3:mem=XK l.mem l.cpu:=r3
    have r4:ptb=l.ppu.table:=r4
    have r5:rd=l.reads:=r5
    subst r1 r2 r3 r4 r5
    rfl
   ·have hmay:QH l=false:=decide_eq_false (by rw[hc];exact hm)
    rw[Zf (by omega),cond_true,hmay]
    unfold Kg
    rw[hmay,if_neg (by simp)]
  ·have hask:XG l=false:=by
    unfold XG
    rw[hn]
    cases h1:l.apu.irq with
    |false=>rfl
    |true=>
     cases h2:l.cpu.i with
     |true=>rfl
     |false=>exact absurd ⟨h1,h2⟩ hq
   have hc:Qz l=Qm (Qg l):=by unfold Qz;rw[hask];rfl
   have hd:doL l=opL l (Qg l) (Yk l):=by
    unfold doL
    unfold XG at hask
    rw[hn,Bool.false_or]at hask
    rw[hn,hask];rfl
   have ew:wI (l.ppu.T+Qm (Qg l))=l.ppu.T+Qm (Qg l):=Zj (by omega) (by omega)
   have key: ∀(X:Option (PTup o285×BTup i285)),
     X=(bif ltI 20000 (wI (l.ppu.T+Qm (Qg l)))then (some ((false,()),(l.t,())))else (r338 (l.t,((Qg l,(Yk l,())),()))).bind fun r2=>(L285_0 (Qm (Qg l),()) (Zm.t {lkM r2.2.1 with img:=l.img,pads:=l.pads,frames:=l.frames,samples:=l.samples,ppu:={(lkM r2.2.1).ppu with dots:=l.ppu.dots}},()) (0,())).bind fun r3=>Zu r3.1 (fun r4=>some ((true,()),(Zm.t {lkM r3.2.1 with img:=l.img,pads:=l.pads,mem:=⟨(lkM r2.2.1).mem.ram,(lkM r3.2.1).mem.bank⟩,ppu:={(lkM r3.2.1).ppu with table:=(lkM r2.2.1).ppu.table},reads:=(lkM r2.2.1).reads,steps:=wI ((lkM r3.2.1).steps+1)},()))) (fun r4=>some ((false,()),(Zm.t {lkM r3.2.1 with img:=l.img,pads:=l.pads,mem:=⟨(lkM r2.2.1).mem.ram,(lkM r3.2.1).mem.bank⟩,ppu:={(lkM r3.2.1).ppu with table:=(lkM r2.2.1).ppu.table},reads:=(lkM r2.2.1).reads},()))))→
     X=some ((QH l,()),((Kg l).t,())):=by
    intro X hX
    rw[hX,ew]
    by_cases hm:l.ppu.T+Qm (Qg l)≤20000
    ·have hmay:QH l=true:=decide_eq_true (by rw[hc];exact hm)
     rw[Zp (by omega),cond_false]
     refine Za (ZnK l (Qg l) (Yk l) h hr (ZmS h.mem _)) ?_
     rw[hmay,ZcZ hmay hd hc]
     obtain ⟨q1,q2,q3,q4,q5⟩:=Zlp l (Qg l) (Yk l)
     rw[hd]at hP hdt
     generalize opL l (Qg l) (Yk l)=m at q1 q2 q3 q4 q5 hP hdt⊢
     have hq:m.ppu.T+Qm (Qg l)≤20000:=by rw[hdt];exact hm
     have kt:=ZfN m (Qm (Qg l)) (by omega) hP hq
     have hw:=ZeY (n:=(Qm (Qg l)).toNat) hP (by omega)
     obtain ⟨r1,r2,r3,r4,r5⟩:=Zar (Qm (Qg l)).toNat m
     clear hP hdt hq
     generalize ZU (Qm (Qg l)).toNat m=q at kt hw r1 r2 r3 r4 r5⊢
     obtain ⟨img,pads,mem,cpu,⟨pT,pc,ps,pa,pp,pb,ptb,pds⟩,apu,pad,nmi,st,fr,sm,rd⟩:=m
     have q1:img=l.img:=q1
     have q2:pads=l.pads:=q2
     have q3:pds=l.ppu.dots:=q3
     have q4:fr=l.frames:=q4
     have q5:sm=l.samples:=q5
     subst q1 q2 q3 q4 q5
     refine Za kt ?_
     obtain ⟨img,pads,mem',cpu',⟨pT',pc',ps',pa',pp',pb',ptb',pds'⟩,apu',pad',nmi',st',fr',sm',rd'⟩:=q
     change img=l.img at r1
     change pads=l.pads at r2
     change mem'=mem at r3
     change ptb'=ptb at r4
     change rd'=rd at r5
     subst r1 r2 r3 r4 r5
     have hw:wI (st'+1)=st'+1:=hw
     show _=some ((true,()),(Zm.t ⟨_,_,_,_,_,_,_,_,st'+1,_,_,_⟩,()))
     rw[←hw]
     rfl
    ·have hmay:QH l=false:=decide_eq_false (by rw[hc];exact hm)
     rw[Zf (by omega),cond_true,hmay]
     unfold Kg
     rw[hmay,if_neg (by simp)]
   cases hirq:l.apu.irq with
   |true=>
    have hi:l.cpu.i=true:=by
     cases h2:l.cpu.i with
     |true=>rfl
     |false=>exact absurd ⟨hirq,h2⟩ hq
    rw[cond_true]
    refine Za kf (Za kc ?_)
    show (bif !l.cpu.i then _ else bif ltI 20000 (wI (l.ppu.T+Qm (Qg l)))then _ else bif l.nmi then _ else bif !l.cpu.i then _ else _)=_
    rw[hn,hi,Bool.not_true,cond_false,cond_false,cond_false]
    exact key _ rfl
   |false=>
    rw[cond_false]
    refine Za kf (Za kc ?_)
    show (bif ltI 20000 (wI (l.ppu.T+Qm (Qg l)))then _ else bif l.nmi then _ else _)=_
    rw[hn,cond_false]
    exact key _ rfl
def Xm (l:Zm):Bool:=Xn l.img l.mem.t&&(XY l.pads&&(Yj l.cpu.t&&(YL l.ppu.t&&(Y3 l.apu.t&&(inR 0 255 l.pad.t.2.1&&(eqI l.apu.T l.ppu.T&&(inR 0 l.ppu.T l.steps&&(XN l.frames l.ppu.T&&W7 l.samples l.ppu.T))))))))
theorem Zam {l:Zm}:Xm l=true↔Z5 l:=by
 unfold Xm
 simp only[Bool.and_eq_true]
 constructor
 ·rintro ⟨a,b,c,d,e,f,g,h,i,j⟩
  have d:=WZ.1 d
  obtain ⟨i1,i2⟩:=(ZaL d.t.1).1 i
  have h:=JS.1 h
  exact ⟨Za8.1 a,ZaC.1 b,Zda.1 c,d,WB.1 e,JS.1 f,Xk.1 g,h.1,h.2,i1,i2,(ZaA d.t.1).1 j⟩
 ·rintro ⟨a,b,c,d,e,f,g,h0,h1,i1,i2,j⟩
  exact ⟨Za8.2 a,ZaC.2 b,Zda.2 c,WZ.2 d,WB.2 e,JS.2 f,Xk.2 g,JS.2 ⟨h0,h1⟩,(ZaL d.t.1).2 ⟨i1,i2⟩,(ZaA d.t.1).2 j⟩
theorem Zdf (l:Zm) (hs:YJ l.t):r283 (l.t,())=some ((Xm l,()),()):=by
 obtain ⟨h1,h2,h3,h4,⟨h5,_,_⟩,h6,h7⟩:=hs
 have h2:l.pads.length≤4398046511104:=h2
 unfold r283 m283 Xm
 refine Za (ZbU l.img l.mem.t h1 h3) ?_
 show (bif Xn l.img l.mem.t then _ else _)=_
 cases Xn l.img l.mem.t with
 |false=>rfl
 |true=>
 rw[cond_true,Bool.true_and]
 refine Za (Zbj l.pads (by omega)) ?_
 show (bif XY l.pads then _ else _)=_
 cases XY l.pads with
 |false=>rfl
 |true=>
 rw[cond_true,Bool.true_and]
 refine Za (ZbR l.cpu.t) ?_
 show (bif Yj l.cpu.t then _ else _)=_
 cases Yj l.cpu.t with
 |false=>rfl
 |true=>
 rw[cond_true,Bool.true_and]
 refine Za (Zev l.ppu.t h4) ?_
 show (bif YL l.ppu.t then _ else _)=_
 cases e:YL l.ppu.t with
 |false=>rfl
 |true=>
 have hT:=(WZ.1 e).t
 rw[cond_true,Bool.true_and]
 refine Za (ZaN l.apu.t) ?_
 show (bif Y3 l.apu.t then _ else _)=_
 cases Y3 l.apu.t with
 |false=>rfl
 |true=>
 rw[cond_true,Bool.true_and]
 refine Za (WQ (l.pad.t.2.1,())) ?_
 show (bif inR 0 255 l.pad.t.2.1 then _ else _)=_
 cases inR 0 255 l.pad.t.2.1 with
 |false=>rfl
 |true=>
 rw[cond_true,Bool.true_and]
 show (bif eqI l.apu.T l.ppu.T then _ else _)=_
 cases eqI l.apu.T l.ppu.T with
 |false=>rfl
 |true=>
 rw[cond_true,Bool.true_and]
 refine Za (XB (l.steps,(0,(l.ppu.T,())))) ?_
 show (bif inR 0 l.ppu.T l.steps then _ else _)=_
 cases inR 0 l.ppu.T l.steps with
 |false=>rfl
 |true=>
 rw[cond_true,Bool.true_and]
 refine Za (ZbS l.frames l.ppu.T h5 hT.1 hT.2) ?_
 show (bif XN l.frames l.ppu.T then _ else _)=_
 cases XN l.frames l.ppu.T with
 |false=>rfl
 |true=>
 rw[cond_true,Bool.true_and]
 exact Za (ZbH l.samples l.ppu.T hT.1 hT.2) rfl
theorem Zbz (l:Zm) (hs:YJ l.t):r340 (l.t,())=some ((Xm l,()),()):=by
 obtain ⟨h1,h2,h3,h4,⟨h5,_,_⟩,h6,h7⟩:=hs
 have h2:l.pads.length≤4398046511104:=h2
 unfold r340 m340 Xm
 rw[Bool.and_left_comm (Xn l.img l.mem.t)]
 refine Za (ZbA l.pads (by omega)) ?_
 show (bif XY l.pads then _ else _)=_
 cases XY l.pads with
 |false=>rfl
 |true=>
 rw[cond_true,Bool.true_and]
 refine Za (Zb6 l.img l.mem.t h1 h3) ?_
 show (bif Xn l.img l.mem.t then _ else _)=_
 cases Xn l.img l.mem.t with
 |false=>rfl
 |true=>
 rw[cond_true,Bool.true_and]
 refine Za (Zb4 l.cpu.t) ?_
 show (bif Yj l.cpu.t then _ else _)=_
 cases Yj l.cpu.t with
 |false=>rfl
 |true=>
 rw[cond_true,Bool.true_and]
 refine Za (ZaW l.ppu.t h4) ?_
 show (bif YL l.ppu.t then _ else _)=_
 cases e:YL l.ppu.t with
 |false=>rfl
 |true=>
 have hT:=(WZ.1 e).t
 rw[cond_true,Bool.true_and]
 refine Za (ZaV l.apu.t) ?_
 show (bif Y3 l.apu.t then _ else _)=_
 cases Y3 l.apu.t with
 |false=>rfl
 |true=>
 rw[cond_true,Bool.true_and]
 refine Za (Vv (l.pad.t.2.1,())) ?_
 show (bif inR 0 255 l.pad.t.2.1 then _ else _)=_
 cases inR 0 255 l.pad.t.2.1 with
 |false=>rfl
 |true=>
 rw[cond_true,Bool.true_and]
 show (bif eqI l.ppu.T l.apu.T then _ else _)=_
 rw[show eqI l.ppu.T l.apu.T=eqI l.apu.T l.ppu.T by by_cases e:l.ppu.T=l.apu.T;rw[Zi e,Zi e.symm];rw[Zd e,Zd (Ne.symm e)]]
 cases eqI l.apu.T l.ppu.T with
 |false=>rfl
 |true=>
 rw[cond_true,Bool.true_and]
 refine Za (JT (l.steps,(0,(l.ppu.T,())))) ?_
 show (bif inR 0 l.ppu.T l.steps then _ else _)=_
 cases inR 0 l.ppu.T l.steps with
 |false=>rfl
 |true=>
 rw[cond_true,Bool.true_and]
 refine Za (Zb5 l.frames l.ppu.T h5 hT.1 hT.2) ?_
 show (bif XN l.frames l.ppu.T then _ else _)=_
 cases XN l.frames l.ppu.T with
 |false=>rfl
 |true=>
 rw[cond_true,Bool.true_and]
 show some ((eqI (l.samples.length:Int) (wI (Int.tdiv l.ppu.T 16)),()),())=_
 unfold W7
 rw[Zj (by rw[W9 hT.1];omega) (by rw[W9 hT.1];omega)]
theorem ZlV (l:Zm) (hs:YJ l.t):r284 (l.t,())=some ((l.t,()),()):=by
 obtain ⟨h1,h2,h3,h4,h5,h6,h7⟩:=hs
 unfold r284 m284
 exact Za (ZbP l.img h1) (Za (Xj l.pads h2) (Za (ZgU l.mem.t h3) (Za (ZgV l.ppu.t h4) (Za (Zbi l.frames h5) (Za (Xj l.samples h6) (Za (Xj l.reads h7) rfl))))))
theorem ZfF (l:Zm) (hs:YJ l.t):r341 (l.t,())=some ((l.t,()),()):=by
 obtain ⟨h1,h2,h3,h4,h5,h6,h7⟩:=hs
 have h2:l.pads.length≤4398046511104:=h2
 have h6:l.samples.length≤4398046511104:=h6
 have h7:l.reads.length≤4398046511104:=h7
 unfold r341 m341
 refine Za (Zal l.img h1) ?_
 show (bif leN (0+l.pads.length) (E.most .i)then _ else none)=_
 rw[ZO (show 0+l.pads.length≤E.most .i by simp only[E.most];omega),cond_true]
 refine Za (Zdl l.mem.t h3) (Za (Uw l.ppu.t h4) (Za (Zcl l.frames h5) ?_))
 show (bif leN (0+l.samples.length) (E.most .i)then (bif leN (0+l.reads.length) (E.most .i)then _ else none)else none)=_
 rw[ZO (show 0+l.samples.length≤E.most .i by simp only[E.most];omega),cond_true,ZO (show 0+l.reads.length≤E.most .i by simp only[E.most];omega),cond_true]
 rfl
theorem Zpj (l:Zm) (h:Z5 l) (hr:l.reads.length≤4398046511000):r381 (l.t,())=some (((doL l).t,(Qz l,())),()):=by
 have kf:=Zav l.img l.mem l.cpu.pc h.mem h.cpu.pc
 have kc:=Zac (Qg l,())
 have ka:=Zak (Qg l) (Yk l) l.cpu h.cpu (ZmS h.mem _)
 unfold r381 m381
 show (bif l.nmi then _ else bif l.apu.irq then (bif !l.cpu.i then _ else _)else _)=_
 cases hn:l.nmi with
 |true=>
  have hc:Qz l=7:=by unfold Qz XG;rw[hn];rfl
  have hd:doL l=Jx {l with nmi:=false} 65530:=by unfold doL;rw[hn];rfl
  rw[cond_true,hc,hd]
  exact Za (Zau l.img l.mem l.cpu 65530 h.mem h.cpu (by omega)) rfl
 |false=>
  rw[cond_false]
  by_cases hq:l.apu.irq=true∧l.cpu.i=false
  ·obtain ⟨hirq,hi⟩:=hq
   have hc:Qz l=7:=by unfold Qz XG;rw[hn,hirq,hi];rfl
   have hd:doL l=Jx l 65534:=by unfold doL;rw[hn,hirq,hi];rfl
   rw[hirq,cond_true,hi,Bool.not_false,cond_true,hc,hd]
   exact Za (Zau l.img l.mem l.cpu 65534 h.mem h.cpu (by omega)) rfl
  ·have hask:XG l=false:=by
    unfold XG
    rw[hn]
    cases h1:l.apu.irq with
    |false=>rfl
    |true=>
     cases h2:l.cpu.i with
     |true=>rfl
     |false=>exact absurd ⟨h1,h2⟩ hq
   have hc:Qz l=Qm (Qg l):=by unfold Qz;rw[hask];rfl
   have hd:doL l=opL l (Qg l) (Yk l):=by
    unfold doL
    unfold XG at hask
    rw[hn,Bool.false_or]at hask
    rw[hn,hask];rfl
   rw[hc,hd]
   have e:(bif l.apu.irq then (bif !l.cpu.i then (0:Nat)else 1)else 1)=1:=by
    cases h1:l.apu.irq with
    |false=>rfl
    |true=>
     cases h2:l.cpu.i with
     |true=>rfl
     |false=>exact absurd ⟨h1,h2⟩ hq
   have pick: ∀{A:Type} (x y:A),(bif l.apu.irq then (bif !l.cpu.i then x else y)else y)=y:=by
    intro A x y
    cases h1:l.apu.irq with
    |false=>rfl
    |true=>
     cases h2:l.cpu.i with
     |true=>rfl
     |false=>exact absurd ⟨h1,h2⟩ hq
   refine (pick _ _).trans ?_
   refine Za kf (Za ka ?_)
   unfold opL
   show (bif eqI (ZG (Qg l)) 1 then _ else bif eqI (ZG (Qg l)) 2 then _ else _)=_
   by_cases o1:ZG (Qg l)=1
   ·rw[Zi o1,if_pos o1,cond_true]
    refine Za (Zl9 l (QQ (Qg l) (Yk l) l.cpu.x) h hr) ?_
    have hv:=Zlw h (QQ (Qg l) (Yk l) l.cpu.x)
    have hp:=Zoa h (QQ (Qg l) (Yk l) l.cpu.x)
    generalize KG l (QQ (Qg l) (Yk l) l.cpu.x)=v at hv⊢
    generalize Jp l (QQ (Qg l) (Yk l) l.cpu.x)=l' at hp⊢
    exact Za (Zan l'.mem l'.cpu (Qg l) (Yk l) v hp.mem.ram hp.cpu) (Za kc rfl)
   rw[Zd o1,if_neg o1,cond_false]
   by_cases o2:ZG (Qg l)=2
   ·rw[Zi o2,if_pos o2,cond_true]
    have ev:YQ (Qg l) l.cpu.a=l.cpu.a%256:=by unfold YQ;rw[if_pos o2]
    have kw:=Zkf l (QQ (Qg l) (Yk l) l.cpu.x) (l.cpu.a%256) h (mod256 _)
    rw[←ev]at kw
    refine Za kw ?_
    rw[ev]
    have hp:=ZiC h (QQ (Qg l) (Yk l) l.cpu.x) (l.cpu.a%256)
    generalize Jt l (QQ (Qg l) (Yk l) l.cpu.x) (l.cpu.a%256)=l' at hp⊢
    exact Za (Zan l'.mem l'.cpu (Qg l) (Yk l) 0 hp.mem.ram hp.cpu) (Za kc rfl)
   ·rw[Zd o2,if_neg o2,cond_false]
    exact Za (Zan l.mem l.cpu (Qg l) (Yk l) 0 h.mem.ram h.cpu) (Za kc rfl)
theorem Zma (l:Zm) (h:Z5 l) (hr:l.reads.length≤4398046511000):r374 (l.t,())=some ((if QH l then (QF l).t else Zmj,(QH l,())),()):=by
 have hb:=Zff l
 have hT:=h.ppu.t
 have hP:=Zqv h
 have hdt:=Zqw l
 unfold r374 m374
 refine Za (Zpj l h hr) ?_
 show (bif ltI 20000 (wI ((doL l).ppu.T+Qz l))then _ else _)=_
 rw[hdt,Zj (by omega) (by omega)]
 by_cases hm:l.ppu.T+Qz l≤20000
 ·have hmay:QH l=true:=decide_eq_true hm
  rw[Zp (by omega),cond_false,hmay,if_pos rfl]
  have hq:(doL l).ppu.T+Qz l≤20000:=by rw[hdt];exact hm
  refine Za (Zpk (doL l) (Qz l) hb hP hq) ?_
  have hw:=ZeY (n:=(Qz l).toNat) hP (by omega)
  show _=some ((Zm.t {(ZU (Qz l).toNat (doL l))with steps:=(ZU (Qz l).toNat (doL l)).steps+1},(true,())),())
  rw[←hw]
  rfl
 ·have hmay:QH l=false:=decide_eq_false hm
  rw[Zf (by omega),cond_true,hmay]
  rfl
theorem Za7 {l:Zm} (h:Z5 l) (hr:l.reads.length≤4398046511000):YJ l.t:=h.s (by omega)
theorem Zge (l:Zm) (h:Z5 l) (hr:l.reads.length≤4398046511000):r342 (l.t,())=some (((Kg l).t,(QH l,())),()):=by
 have hs:=Za7 h hr
 unfold r342 m342 Kg
 refine Za (Zbz l hs) ?_
 show (bif !Xm l then _ else _)=_
 rw[Zam.2 h,Bool.not_true,cond_false]
 refine Za (ZfF l hs) (Za (Zma l h hr) ?_)
 show (bif QH l then _ else _)=_
 cases hm:QH l with
 |true=>rfl
 |false=>
  rw[cond_false]
  exact Za (ZfF l hs) rfl
theorem Znh (l:Zm):(doL l).img=l.img∧(doL l).pads=l.pads:=by
 unfold doL
 split
 ·exact ⟨rfl,rfl⟩
 split
 ·exact ⟨rfl,rfl⟩
 ·obtain ⟨a,b,_⟩:=Zlp l (Qg l) (Yk l);exact ⟨a,b⟩
theorem Zgl (l:Zm):(QF l).img=l.img∧(QF l).pads=l.pads:=by
 obtain ⟨a,b,_⟩:=Zar (Qz l).toNat (doL l)
 exact ⟨a.trans (Znh l).1,b.trans (Znh l).2⟩
theorem Zlz: ∀(n:Nat) (l:Zm),(Qp n l).1.img=l.img∧(Qp n l).1.pads=l.pads
 |0,l=>⟨rfl,rfl⟩
 |n+1,l=>by
  unfold Qp
  split
  ·obtain ⟨a,b⟩:=Zlz n (QF l)
   exact ⟨a.trans (Zgl l).1,b.trans (Zgl l).2⟩
  ·exact ⟨rfl,rfl⟩
theorem Zog {j:Nat} {l:Zm} (h:QH l=false):Qp (j+1) l=(l,0):=by
 show (if QH l then _ else _)=_
 rw[h,if_neg (by simp)]
theorem Zhr {j:Nat} {l:Zm} (h:QH l=true):Qp (j+1) l=((Qp j (QF l)).1,(Qp j (QF l)).2+1):=by
 show (if QH l then _ else _)=_
 rw[h,if_pos rfl]
theorem ZmF {l:Zm} (h:QH l=false):Kg l=l:=by unfold Kg;rw[h,if_neg (by simp)]
theorem Zhv {l:Zm} (h:QH l=true):Kg l=QF l:=by unfold Kg;rw[h,if_pos rfl]
theorem ZbG (n:Int): ∀(k i j:Nat) (l:Zm),Z5 l→l.reads.length+j≤4398046511000→j<k→QE n=i+j→
  n216_0 r285 r283 r284 k (n,()) (l.t,()) ((i:Int),())=some (Sum.inl (((i+(Qp j l).2:Nat):Int),()),((Qp j l).1.t,()))
 |0,_,_,_,_,_,h,_=>absurd h (by omega)
 |k+1,i,j,l,h,hr,hk,hm=>by
  have hb:=K5 n
  show (bif ltI (i:Int) (mnI n 3000)then (r285 (l.t,())).bind _ else some (Sum.inl ((i:Int),()),(l.t,())))=_
  cases j with
  |zero=>
   rw[VA,Zp (by unfold QE at hm;omega),cond_false]
   rfl
  |succ j=>
   rw[VA,Zf (by unfold QE at hm;omega),cond_true]
   refine Za (Zkl l h (by omega)) ?_
   show (bif !QH l then _ else _)=_
   cases hst:QH l with
   |false=>
    rw[Zog hst,ZmF hst,Bool.not_false,cond_true];rfl
   |true=>
    rw[Zhr hst,Zhv hst,Bool.not_true,cond_false]
    obtain ⟨a,_,_,d⟩:=ZkL h hst
    have ih:=ZbG n k (i+1) j (QF l) a (by omega) (by omega) (by omega)
    have ew:wI ((i:Int)+1)=((i+1:Nat):Int):=by rw[Zj (by omega) (by omega)];omega
    rw[show i+1+(Qp j (QF l)).2=i+((Qp j (QF l)).2+1) by omega,←ew]at ih
    obtain ⟨g1,g2⟩:=Zgl l
    show _=some (Sum.inl (((i+((Qp j (QF l)).2+1):Nat):Int),()),((Qp j (QF l)).1.t,()))
    generalize Qp j (QF l)=z at ih⊢
    generalize QF l=l' at ih g1 g2⊢
    obtain ⟨img,pads,mem,cpu,ppu,apu,pad,nmi,st,fr,sm,rd⟩:=l'
    have g1:img=l.img:=g1
    have g2:pads=l.pads:=g2
    subst g1 g2
    exact ih
theorem ZbJ (n:Int) (z:Tup Y8): ∀(k i j:Nat) (l:Zm),Z5 l→l.reads.length+j≤4398046511000→j<k→QE n=i+j→
  n290_0 r340 r342 r341 r105 k (n,()) (z,(l.t,())) ((i:Int),())=some (Sum.inl (((i+(Qp j l).2:Nat):Int),()),(z,((Qp j l).1.t,())))∨
  (∃y,n290_0 r340 r342 r341 r105 k (n,()) (z,(l.t,())) ((i:Int),())=some (Sum.inr (((i+(Qp j l).2:Nat):Int),()),((Qp j l).1.t,(y,()))))
 |0,_,_,_,_,_,h,_=>absurd h (by omega)
 |k+1,i,j,l,h,hr,hk,hm=>by
  have hb:=K5 n
  have e0: ∃D:Tup Y8,n290_0 r340 r342 r341 r105 (k+1) (n,()) (z,(l.t,())) ((i:Int),())=bif ltI (i:Int) (mnI n 3000)then (r342 (l.t,())).bind (fun r1=>
    bif (!r1.1.2.1)then (some ((Sum.inr ((i:Int),())),(l.t,(D,()))))else n290_0 r340 r342 r341 r105 k (n,()) (z,(r1.1.1,())) ((wI ((i:Int)+(1:Int))),()))else some (Sum.inl ((i:Int),()),(z,(l.t,()))):=
   ⟨_,Za (Zd5 n) rfl⟩
  obtain ⟨D,e0⟩:=e0
  rw[e0]
  cases j with
  |zero=>
   rw[VA,Zp (by unfold QE at hm;omega),cond_false]
   exact .inl rfl
  |succ j=>
   rw[VA,Zf (by unfold QE at hm;omega),cond_true,Zge l h (by omega),Option.bind_some]
   show (bif !QH l then _ else _)=_∨ ∃y,(bif !QH l then _ else _)=_
   cases hst:QH l with
   |false=>
    rw[Zog hst,Bool.not_false,cond_true]
    exact .inr ⟨D,rfl⟩
   |true=>
    rw[Zhr hst,Zhv hst,Bool.not_true,cond_false]
    obtain ⟨a,_,_,d⟩:=ZkL h hst
    have ih:=ZbJ n z k (i+1) j (QF l) a (by omega) (by omega) (by omega)
    have ew:wI ((i:Int)+1)=((i+1:Nat):Int):=by rw[Zj (by omega) (by omega)];omega
    rw[show i+1+(Qp j (QF l)).2=i+((Qp j (QF l)).2+1) by omega,←ew]at ih
    exact ih
def We (l:Zm) (n:Int):Tup Y8×Int:=if Xm l then ((Qp (QE n) l).1.t,((Qp (QE n) l).2:Int))else (Zmj,0)
theorem Zh8 (l:Zm) (n:Int) (hs:YJ l.t) (hr:l.reads.length≤1048576):r216 (l.t,(n,()))=some (((We l n).1,((We l n).2,())),()):=by
 have hb:=K5 n
 unfold r216 m216 We
 refine Za (Zdf l hs) ?_
 show (bif !Xm l then _ else _)=_
 cases ho:Xm l with
 |false=>rfl
 |true=>
  have h:=Zam.1 ho
  rw[Bool.not_true,cond_false,if_pos rfl]
  refine Za (ZlV l hs) ?_
  have k:=ZbG n fuel 0 (QE n) l h (by omega) (by have:=ZQ;omega) (by omega)
  simp only[Int.natCast_zero,Nat.zero_add]at k
  refine Za k ?_
  obtain ⟨g1,g2⟩:=Zlz (QE n) l
  generalize Qp (QE n) l=d at g1 g2⊢
  obtain ⟨⟨img,pads,mem,cpu,ppu,apu,pad,nmi,st,fr,sm,rd⟩,m⟩:=d
  have g1:img=l.img:=g1
  have g2:pads=l.pads:=g2
  subst g1 g2
  rfl
theorem Ziu (l:Zm) (n:Int) (hs:YJ l.t) (hr:l.reads.length≤1048576):r290 (l.t,(n,()))=some (((We l n).1,((We l n).2,())),()):=by
 have hb:=K5 n
 unfold r290 m290 We
 refine Za (Zbz l hs) ?_
 show (bif !Xm l then _ else _)=_
 cases ho:Xm l with
 |false=>rfl
 |true=>
  have h:=Zam.1 ho
  rw[Bool.not_true,cond_false,if_pos rfl]
  refine Za (ZfF l hs) ?_
  have k:=ZbJ n Zmj fuel 0 (QE n) l h (by omega) (by have:=ZQ;omega) (by omega)
  simp only[Int.natCast_zero,Nat.zero_add]at k
  rcases k with k| ⟨y,k⟩
  ·exact Za k rfl
  ·exact Za k rfl
theorem Zlf:YJ Zmj:=⟨⟨by decide,(fun l hl=>by cases hl),by decide⟩,by decide,by decide,⟨by decide,by decide⟩,⟨by decide,(fun l hl=>by cases hl),by decide⟩,by decide,by decide⟩
theorem Zmk {l:Zm} (hr:l.reads.length≤1048576) (n:Int):YJ (We l n).1:=by
 unfold We
 split
 ·rename_i ho
  obtain ⟨a,b,c,d⟩:=Zp8 (n:=QE n) (Zam.1 ho)
  have:=K5 n
  exact a.s (by omega)
 ·exact Zlf
def Yt:Zv:=⟨List.replicate 512 0,0⟩
def Zjm (f:List (List Int)):Zk:=⟨0,0,255,Vf f Yt 65532,false,false,false,true⟩
def YC (f:List (List Int)) (p:List Int):Zm:=⟨f,p,Yt,Zjm f,⟨0,0,0,0,0,false,List.replicate 16 0,[]⟩,⟨0,0,0,0,0,false,false⟩,⟨false,0⟩,false,0,[],[],[]⟩
theorem ZeS {f:List (List Int)} (h:YE f):JD f Yt:=
 ⟨h,⟨by show (List.replicate 512 (0:Int)).length=512;exact List.length_replicate,fun n hn=>by have:=List.eq_of_mem_replicate hn;omega⟩,by show (0:Int)≤0;decide,by have:=h.lo;show (0:Int)< (f.length:Int);omega⟩
theorem Zlm:JI ⟨0,0,0,0,0,false,List.replicate 16 0,[]⟩:=
 ⟨by decide,by decide,by decide,by decide,by decide,by decide,fun n hn=>by have:=List.eq_of_mem_replicate hn;omega,by decide,fun n hn=>by cases hn⟩
theorem Zlj:Yf ⟨0,0,0,0,0,false,false⟩:=⟨by decide,by decide,by decide,by decide,by decide⟩
theorem Zlk (f:List (List Int)):ZE (Zjm f):=
 ⟨by show (0:Int)≤0∧(0:Int)≤255;decide,by show (0:Int)≤0∧(0:Int)≤255;decide,by show (0:Int)≤255∧(255:Int)≤255;decide,ZoN _ _ _⟩
theorem Zll {f:List (List Int)} {p:List Int} (h:YE f) (hp:J4 p):Z5 (YC f p):=
 ⟨ZeS h,hp,Zlk f,Zlm,Zlj,by show (0:Int)≤0∧(0:Int)≤255;decide,rfl,by show (0:Int)≤0;decide,by show (0:Int)≤0;decide,(fun l hl=>by cases hl),
  by show ((0:Nat):Int)=YA 0;decide,by show ((0:Nat):Int)=0/16;decide⟩
theorem Zh7 (f:List (List Int)) (h:YE f):r281 ((f,()),())=some (((Zjm f).t,()),()):=by
 have hm:=ZeS h
 have k1:=Zfz f Yt 65532 hm
 have k2:=Zfz f Yt 65533 hm
 unfold r281 m281
 refine Za (y:=((Yt.t,()),())) rfl ?_
 have kv:r336 ((f,()),(Yt.t,((65532:Int),())))=some ((Vf f Yt 65532,()),()):=by
  unfold r336 m336
  exact Za k1 (Za k2 (Za (ZaH (ZI f Yt 65532,(ZI f Yt 65533,()))) rfl))
 exact Za kv rfl
theorem ZdD (f:List (List Int)) (h:YE f):r273 ((f,()),())=some (((Zjm f).t,()),()):=by
 have hm:=ZeS h
 have k1:=Zao f Yt 65532 hm
 have k2:=Zao f Yt 65533 hm
 unfold r273 m273
 refine Za (y:=((Yt.t,()),())) rfl ?_
 exact Za k1 (Za k2 (Za (Zbx (ZI f Yt 65532,(ZI f Yt 65533,()))) rfl))
theorem ZgE (f:List (List Int)) (p:List Int) (h:YE f) (hp:J4 p):r215 ((f,()),(p,()))=some (((YC f p).t,(true,())),()):=by
 have hP:=Zll h hp
 have hs:=Za7 hP (by show 0≤_;omega)
 have hl:=hp.len
 unfold r215 m215
 refine Za (ZbP f h.small) (Za (Xj p (by omega)) (Za (y:=((Yt.t,()),())) rfl (Za (Zh7 f h) (Za (y:=(((YC f p).ppu.t,()),())) rfl (Za (Zdf (YC f p) hs) ?_)))))
 show (bif !Xm (YC f p)then _ else _)=_
 rw[Zam.2 hP,Bool.not_true,cond_false]
 rfl
theorem ZgO (f:List (List Int)) (p:List Int) (h:YE f) (hp:J4 p):r289 ((f,()),(p,()))=some (((YC f p).t,(true,())),()):=by
 have hP:=Zll h hp
 have hs:=Za7 hP (by show 0≤_;omega)
 have hl:=hp.len
 unfold r289 m289
 refine Za (Zal f h.small) ?_
 show (bif leN (0+p.length) (E.most .i)then _ else none)=_
 rw[ZO (show 0+p.length≤E.most .i by simp only[E.most];omega),cond_true]
 refine Za (y:=((Yt.t,()),())) rfl (Za (ZdD f h) (Za (y:=(((YC f p).ppu.t,()),())) rfl (Za (Zbz (YC f p) hs) ?_)))
 show (bif !Xm (YC f p)then _ else _)=_
 rw[Zam.2 hP,Bool.not_true,cond_false]
 rfl
def Q7 (s:Zc):Bool:=Qd s.t&&leI s.steps 3000
def Xe (s:Zc):Tup Y8:=if Q7 s then (We (YC s.img s.pads) s.steps).1 else Zmj
theorem Zrj (s:Zc):YJ (Xe s):=by
 unfold Xe
 split
 ·exact Zmk (by show 0≤_;omega) _
 ·exact Zlf
theorem Zbp (s:Zc) (hs:ZM s.t):r146 (s.t,())=some ((Q7 s,()),()):=by
 unfold r146 m146 Q7
 refine Za (Vu s.t hs) ?_
 show (bif Qd s.t then _ else _)=_
 cases Qd s.t<;>rfl
theorem ZfJ (s:Zc) (hs:ZM s.t):r231 (s.t,())=some ((Q7 s,()),()):=by
 unfold r231 m231 Q7
 refine Za (KK s.t hs) ?_
 show (bif Qd s.t then _ else _)=_
 cases Qd s.t<;>rfl
theorem ZcS (s:Zc) (hs:ZM s.t):r147 (s.t,())=some ((Xe s,()),()):=by
 unfold r147 m147 Xe
 refine Za (Zbp s hs) ?_
 show (bif !Q7 s then _ else _)=_
 cases hf:Q7 s with
 |false=>rfl
 |true=>
  have hf2:=hf
  unfold Q7 at hf2
  rw[Bool.and_eq_true]at hf2
  have h:=JN.1 hf2.1
  have hP:=Zll h.mem.img h.pads
  have hz:YJ (YC s.img s.pads).t:=Za7 hP (by show 0≤_;omega)
  rw[Bool.not_true,cond_false,if_pos rfl]
  exact Za (ZgE s.img s.pads h.mem.img h.pads) (Za (Zh8 (YC s.img s.pads) s.steps hz (by show 0≤_;omega)) rfl)
theorem ZcY (s:Zc) (hs:ZM s.t):r232 (s.t,())=some ((Xe s,()),()):=by
 unfold r232 m232 Xe
 refine Za (KK s.t hs) ?_
 show (bif !Qd s.t then _ else bif ltI 3000 s.steps then _ else _)=_
 have e:ltI 3000 s.steps= !leI s.steps 3000:=Zkn _ _
 rw[e]
 cases ho:Qd s.t with
 |false=>
  have hf:Q7 s=false:=by unfold Q7;rw[ho];rfl
  rw[hf];rfl
 |true=>
  cases hl:leI s.steps 3000 with
  |false=>
   have hf:Q7 s=false:=by unfold Q7;rw[ho,hl];rfl
   rw[hf];rfl
  |true=>
   have hf:Q7 s=true:=by unfold Q7;rw[ho,hl];rfl
   have h:=JN.1 ho
   have hP:=Zll h.mem.img h.pads
   have hz:YJ (YC s.img s.pads).t:=Za7 hP (by show 0≤_;omega)
   rw[hf,Bool.not_true,cond_false,cond_false,if_pos rfl]
   exact Za (ZgO s.img s.pads h.mem.img h.pads) (Za (Ziu (YC s.img s.pads) s.steps hz (by show 0≤_;omega)) rfl)
def Wp (s:Zc):Bool:=Q7 s&&XV (UB s.t) (J0 (Xe s))
theorem Zjq {s:Zc} (hs:ZM s.t):UC (UB s.t):=by
 obtain ⟨h1,h2,h3,h4,h5,h6⟩:=hs
 exact ⟨h5.2.2,h6.2,h4⟩
theorem ZeG (s:Zc) (hs:ZM s.t):r77 (s.t,())=some ((Wp s,()),()):=by
 unfold r77 m77 Wp
 refine Za (Zbp s hs) ?_
 show (bif Q7 s then _ else _)=_
 cases Q7 s with
 |false=>rfl
 |true=>exact Za (Zes s.t hs) (Za (ZcS s hs) (Za (Zh6 (UB s.t) (J0 (Xe s)) (Zjq hs)) rfl))
theorem ZeK (s:Zc) (hs:ZM s.t):r177 (s.t,())=some ((Wp s,()),()):=by
 unfold r177 m177 Wp
 refine Za (ZfJ s hs) ?_
 show (bif Q7 s then _ else _)=_
 cases Q7 s with
 |false=>rfl
 |true=>exact Za (ZeC s.t hs) (Za (ZcY s hs) (Za (Zbw (UB s.t) (J0 (Xe s)) (Zjq hs)) rfl))
theorem Zep {s:Tup Qi} (h:ZM s):YJ (V1 s):=by
 obtain ⟨h1,h2,h3,h4,h5,h6⟩:=h
 unfold V1
 split
 ·exact ⟨h1,h2,h3,h5.1,h5.2.2,h6.2,h4⟩
 ·exact ⟨⟨by decide,(fun l hl=>by cases hl),by decide⟩,by decide,by decide,⟨by decide,by decide⟩,⟨by decide,(fun l hl=>by cases hl),by decide⟩,by decide,by decide⟩
theorem Zgd (a b:Tup Y8) (h:YJ a) (hb:YJ b):r236 (a,(b,()))=some ((Zlg a b,()),()):=by
 unfold r236 m236
 obtain ⟨_,_,h3,h4,h5⟩:=h
 simp only[Zea (JK a).1 (JK b).1 h3,ZmD (YT a) (YT b) h4,ZkJ (J0 a) (J0 b) h5 hb.2.2.2.2,Option.bind_some,QY]
 show some ((decide ((JK a).1=(JK b).1)&&(eqI (JK a).2.1 (JK b).2.1&&(WE (KB a) (KB b)&&(Zn3 (YT a) (YT b)&&(Zqg (Uy a) (Uy b)&&(VD (Xl a) (Xl b)&&((a.2.2.2.2.2.2.2.2.2.2.2.2.2.2.2.2.2.2.2.2.2.2.2.2.2.2.2.2.2.1==b.2.2.2.2.2.2.2.2.2.2.2.2.2.2.2.2.2.2.2.2.2.2.2.2.2.2.2.2.2.1)&&
  (eqI a.2.2.2.2.2.2.2.2.2.2.2.2.2.2.2.2.2.2.2.2.2.2.2.2.2.2.2.2.2.2.1 b.2.2.2.2.2.2.2.2.2.2.2.2.2.2.2.2.2.2.2.2.2.2.2.2.2.2.2.2.2.2.1&&Wf (J0 a) (J0 b)))))))),()),())=_
 unfold Zlg Uz
 generalize decide ((JK a).1=(JK b).1)=x1
 generalize eqI (JK a).2.1 (JK b).2.1=x2
 generalize WE (KB a) (KB b)=x3
 generalize Zn3 (YT a) (YT b)=x4
 generalize Zqg (Uy a) (Uy b)=x5
 generalize VD (Xl a) (Xl b)=x6
 generalize Wf (J0 a) (J0 b)=x7
 cases x1<;>cases x2<;>cases x3<;>cases x4<;>cases x5<;>cases x6<;>simp
def Wc (s:Zc):Bool:=Q7 s&&Zlg (V1 (Ys s).t) (Xe s)
theorem ZdZ (s:Zc) (hs:ZM s.t) (hr:ZA s):r78 (s.t,())=some ((Wc s,()),()):=by
 obtain ⟨ls,lr⟩:=ZeQ hs hr
 unfold r78 m78 Wc
 refine Za (Zbp s hs) ?_
 show (bif Q7 s then _ else _)=_
 cases Q7 s with
 |false=>rfl
 |true=>exact Za (ZcQ s hs hr) (Za (Zh5 (Ys s).t ls) (Za (ZcS s hs) (Za (Zfx (V1 (Ys s).t) (Xe s) (Zep ls)) rfl)))
theorem Zef (s:Zc) (hs:ZM s.t) (hr:ZA s):r178 (s.t,())=some ((Wc s,()),()):=by
 obtain ⟨ls,lr⟩:=ZeQ hs hr
 unfold r178 m178 Wc
 refine Za (ZfJ s hs) ?_
 show (bif Q7 s then _ else _)=_
 cases Q7 s with
 |false=>rfl
 |true=>exact Za (Zby s hs hr) (Za (Zit (Ys s).t ls) (Za (ZcY s hs) (Za (Zgd (V1 (Ys s).t) (Xe s) (Zep ls) (Zrj s)) rfl)))
def Zsk (s:Zc) (g:Tup Y8):Bool:=WE s.cpu.t (KB g)&&(VD s.pad.t (Xl g)&&((s.nmi==g.2.2.2.2.2.2.2.2.2.2.2.2.2.2.2.2.2.2.2.2.2.2.2.2.2.2.2.2.2.1)&&(eqI s.T (YT g).1&&(Uz s.mem.t (JK g)&&decide (s.reads=(J0 g).2.2.1)))))
def Wb (s:Zc):Bool:=Q7 s&&Zsk s (Xe s)
theorem Zfw (s:Zc) (hs:ZM s.t):r76 (s.t,())=some ((Wb s,()),()):=by
 have hm:s.mem.t.1.length≤4398046511104:=hs.2.2.1
 have hrd:s.reads.length≤4398046511104:=hs.2.2.2.1
 unfold r76 m76 Wb
 refine Za (Zbp s hs) ?_
 show (bif !Q7 s then _ else _)=_
 cases Q7 s with
 |false=>rfl
 |true=>
 rw[Bool.not_true,cond_false,Bool.true_and]
 refine Za (ZcS s hs) ?_
 generalize Xe s=g
 have k1:=Zhh s.mem.t (JK g) hm
 have k2:=Un s.reads (J0 g).2.2.1 hrd
 unfold Zsk
 show (bif WE s.cpu.t (KB g)then (bif VD s.pad.t (Xl g)then (bif s.nmi==g.2.2.2.2.2.2.2.2.2.2.2.2.2.2.2.2.2.2.2.2.2.2.2.2.2.2.2.2.2.1 then (bif eqI s.T (YT g).1 then _ else _)else _)else _)else _)=_
 cases WE s.cpu.t (KB g)with
 |false=>rfl
 |true=>
 cases VD s.pad.t (Xl g)with
 |false=>rfl
 |true=>
 cases s.nmi==g.2.2.2.2.2.2.2.2.2.2.2.2.2.2.2.2.2.2.2.2.2.2.2.2.2.2.2.2.2.1 with
 |false=>rfl
 |true=>
 cases eqI s.T (YT g).1 with
 |false=>rfl
 |true=>
 rw[cond_true,cond_true,cond_true,cond_true,Bool.true_and,Bool.true_and,Bool.true_and,Bool.true_and]
 refine Za k1 ?_
 show (bif Uz s.mem.t (JK g)then _ else _)=_
 cases Uz s.mem.t (JK g)with
 |false=>rfl
 |true=>exact Za k2 rfl
theorem Zgc (s:Zc) (hs:ZM s.t):r176 (s.t,())=some ((Wb s,()),()):=by
 have hm:s.mem.t.1.length≤4398046511104:=hs.2.2.1
 have hrd:s.reads.length≤4398046511104:=hs.2.2.2.1
 unfold r176 m176 Wb
 refine Za (ZfJ s hs) ?_
 show (bif !Q7 s then _ else _)=_
 cases Q7 s with
 |false=>rfl
 |true=>
 rw[Bool.not_true,cond_false,Bool.true_and]
 refine Za (ZcY s hs) ?_
 generalize Xe s=g
 have k1:=Zea s.mem.t.1 (JK g).1 hm
 have k2:=Zea s.reads (J0 g).2.2.1 hrd
 unfold Zsk Uz
 show (bif WE s.cpu.t (KB g)then (bif eqI s.mem.t.2.1 (JK g).2.1 then _ else _)else _)=_
 cases WE s.cpu.t (KB g)with
 |false=>rfl
 |true=>
 cases eqI s.mem.t.2.1 (JK g).2.1 with
 |false=>
  show some ((false,()),())=some ((VD s.pad.t (Xl g)&&(_&&(_&&false)),()),())
  rw[Bool.and_false,Bool.and_false,Bool.and_false]
 |true=>
 rw[cond_true,cond_true,Bool.true_and,Bool.true_and]
 refine Za k1 ?_
 show (bif decide (s.mem.t.1=(JK g).1)then (bif VD s.pad.t (Xl g)then (bif s.nmi==g.2.2.2.2.2.2.2.2.2.2.2.2.2.2.2.2.2.2.2.2.2.2.2.2.2.2.2.2.2.1 then _ else _)else _)else _)=_
 cases decide (s.mem.t.1=(JK g).1)with
 |false=>
  show some ((false,()),())=some ((VD s.pad.t (Xl g)&&(_&&(_&&false)),()),())
  rw[Bool.and_false,Bool.and_false,Bool.and_false]
 |true=>
 cases VD s.pad.t (Xl g)with
 |false=>rfl
 |true=>
 cases s.nmi==g.2.2.2.2.2.2.2.2.2.2.2.2.2.2.2.2.2.2.2.2.2.2.2.2.2.2.2.2.2.1 with
 |false=>rfl
 |true=>
 rw[cond_true,cond_true,cond_true,Bool.true_and,Bool.true_and]
 refine Za k2 ?_
 show (bif decide (s.reads=(J0 g).2.2.1)then (some ((eqI s.T (YT g).1,()),()))else some ((false,()),()))=_
 cases decide (s.reads=(J0 g).2.2.1)with
 |false=>
  show some ((false,()),())=some ((_&&false,()),())
  rw[Bool.and_false]
 |true=>
  show some ((_,()),())=some ((_&&true,()),())
  rw[Bool.and_true]
def Kx (s:Zc):Bool:=Wb s&&(Wp s&&(Wc s&&ZiG s))
theorem ZbT (s:Zc) (hs:ZM s.t) (hr:ZA s):r16 (s.t,())=some ((Kx s,()),()):=by
 unfold r16 m16 Kx
 refine Za (Zfw s hs) ?_
 show (bif Wb s then _ else _)=_
 cases Wb s with
 |false=>rfl
 |true=>
 refine Za (ZeG s hs) ?_
 show (bif Wp s then _ else _)=_
 cases Wp s with
 |false=>rfl
 |true=>
 refine Za (ZdZ s hs hr) ?_
 show (bif Wc s then _ else _)=_
 cases Wc s with
 |false=>rfl
 |true=>exact Za (ZeF s hs hr) rfl
theorem Zgb (s:Zc) (hs:ZM s.t) (hr:ZA s):r98 (s.t,())=some ((Kx s,()),()):=by
 unfold r98 m98 Kx
 refine Za (Zgc s hs) ?_
 show (bif Wb s then _ else _)=_
 cases Wb s with
 |false=>rfl
 |true=>
 refine Za (ZeK s hs) ?_
 show (bif Wp s then _ else _)=_
 cases Wp s with
 |false=>rfl
 |true=>
 refine Za (Zef s hs hr) ?_
 show (bif Wc s then _ else _)=_
 cases Wc s with
 |false=>rfl
 |true=>exact Za (ZeJ s hs hr) rfl

end Go.Proofs.YtleidaafbhojfaaGreatDoor.Plain
