/- Plain laws of the printed functions: LockI, LockJ, LockK, LockL, TwinI. No condition beyond those that each lemma states. -/
import Derived.Test.YtleidaafbhojfaaGreatDoorPD
set_option linter.unusedVariables false
set_option linter.unusedSimpArgs false
namespace Go.Proofs.YtleidaafbhojfaaGreatDoor.Plain
open Go Go.Tev
theorem ZqT (l:Zau) (a:Int) (h:Zbx l) (hr:l.reads.length≤4398046511000):r372 (l.t,(a,()))=some ((ZhT l a,()),((ZdU l a).t,())):=by
 have hl:leN (l.reads.length+1) (E.most .i)=true:=Zbn (by simp only[E.most];omega)
 unfold r372 m372 ZdU ZhT
 refine Zaa (ZbK (a,())) ?_
 show (bif eqI (rgT a).1 2 then _ else bif eqI (rgT a).1 3 then _ else bif eqI (rgT a).1 4 then _ else bif eqI (rgT a).1 7 then _ else _)=_
 by_cases c2:(rgT a).1=2
 ·rw[Zao c2,if_pos c2,if_pos c2,cond_true]
  refine Zaa (Zu1 l.ppu h.ppu (rgT a).2) ?_
  obtain ⟨e1,e2⟩:=Zhw l.ppu (rgT a).2
  generalize Ze9 l.ppu (rgT a).2=q at e1 e2⊢
  obtain ⟨T,c,sc,ad,pal,bl,tb,ds⟩:=q
  have e1:tb=l.ppu.table:=e1
  have e2:ds=l.ppu.dots:=e2
  subst e1 e2
  show (bif leN (l.reads.length+1) (E.most .i)then _ else none)=_
  rw[hl];rfl
 rw[Zag c2,if_neg c2,if_neg c2,cond_false]
 by_cases c3:(rgT a).1=3
 ·rw[Zao c3,if_pos c3,if_pos c3,cond_true]
  refine Zaa (ZhM l.apu h.apu (rgT a).2) ?_
  show (bif leN (l.reads.length+1) (E.most .i)then _ else none)=_
  rw[hl];rfl
 rw[Zag c3,if_neg c3,if_neg c3,cond_false]
 by_cases c4:(rgT a).1=4
 ·rw[Zao c4,if_pos c4,if_pos c4,cond_true]
  refine Zaa (ZhN l.pad l.pads l.ppu.T h.pads h.ppu.t) ?_
  show (bif leN (l.reads.length+1) (E.most .i)then _ else none)=_
  rw[hl];rfl
 rw[Zag c4,if_neg c4,if_neg c4,cond_false]
 by_cases c7:(rgT a).1=7
 ·have hz:Zba l.img l.mem a=0:=by
   unfold Zba
   rw[if_neg (by omega),if_neg (by omega),if_neg (by omega)]
  rw[Zao c7,hz];rfl
 ·rw[Zag c7,cond_false]
  exact Zaa (ZbJ l.img l.mem a h.mem) rfl
theorem Zs3 (l:Zau) (a:Int) (h:Zbx l) (hr:l.reads.length≤4398046511000):r383 (l.t,(a,()))=some (((ZdU l a).t,(ZhT l a,())),()):=by
 have hl:leN (l.reads.length+1) (E.most .i)=true:=Zbn (by simp only[E.most];omega)
 unfold r383 m383 ZdU ZhT
 refine Zaa (Zbs (a,())) ?_
 show (bif eqI (rgT a).1 2 then _ else bif eqI (rgT a).1 3 then _ else bif eqI (rgT a).1 4 then _ else _)=_
 by_cases c2:(rgT a).1=2
 ·rw[Zao c2,if_pos c2,if_pos c2,cond_true]
  refine Zaa (ZhZ l.ppu h.ppu (rgT a).2) ?_
  show (bif leN (l.reads.length+1) (E.most .i)then _ else none)=_
  rw[hl];rfl
 rw[Zag c2,if_neg c2,if_neg c2,cond_false]
 by_cases c3:(rgT a).1=3
 ·rw[Zao c3,if_pos c3,if_pos c3,cond_true]
  refine Zaa (ZhW l.apu h.apu (rgT a).2) ?_
  show (bif leN (l.reads.length+1) (E.most .i)then _ else none)=_
  rw[hl];rfl
 rw[Zag c3,if_neg c3,if_neg c3,cond_false]
 by_cases c4:(rgT a).1=4
 ·rw[Zao c4,if_pos c4,if_pos c4,cond_true]
  refine Zaa (ZhY l.pad l.pads l.ppu.T h.pads h.ppu.t) ?_
  show (bif leN (l.reads.length+1) (E.most .i)then _ else none)=_
  rw[hl];rfl
 rw[Zag c4,if_neg c4,if_neg c4,cond_false]
 exact Zaa (Zg8 l.img l.mem a h.mem) rfl
theorem Zon (l:Zau) (a v:Int) (h:Zbx l):r373 (l.t,(a,(v,())))=some ((),((Zb3 l a v).t,())):=by
 unfold r373 m373 Zb3
 refine Zaa (ZbK (a,())) ?_
 show (bif eqI (rgT a).1 2 then _ else bif eqI (rgT a).1 3 then _ else bif eqI (rgT a).1 4 then _ else bif eqI (rgT a).1 1 then (bif eqI (rgT a).1 1 then _ else _)else bif eqI (rgT a).1 5 then (bif eqI (rgT a).1 5 then _ else _)else bif eqI (rgT a).1 6 then _ else _)=_
 by_cases c2:(rgT a).1=2
 ·rw[Zao c2,if_pos c2,cond_true]
  refine Zaa (Zsr l.ppu h.ppu (rgT a).2 v) ?_
  have e2:(ZcA l.ppu (rgT a).2 v).dots=l.ppu.dots:=Zit _ _ _
  generalize ZcA l.ppu (rgT a).2 v=q at e2⊢
  obtain ⟨T,c,sc,ad,pal,bl,tb,ds⟩:=q
  have e2:ds=l.ppu.dots:=e2
  subst e2
  rfl
 rw[Zag c2,if_neg c2,cond_false]
 by_cases c3:(rgT a).1=3
 ·rw[Zao c3,if_pos c3,cond_true]
  exact Zaa (ZgF l.apu h.apu (rgT a).2 v) rfl
 rw[Zag c3,if_neg c3,cond_false]
 by_cases c4:(rgT a).1=4
 ·rw[Zao c4,if_pos c4,cond_true]
  exact Zaa (ZgJ l.pad l.pads l.ppu.T v h.pads h.ppu.t) rfl
 rw[Zag c4,if_neg c4,cond_false]
 have kp:=ZlH l.img l.mem a v h.mem
 by_cases c1:(rgT a).1=1
 ·rw[Zao c1,cond_true,cond_true]
  exact Zaa kp rfl
 rw[Zag c1,cond_false]
 by_cases c5:(rgT a).1=5
 ·rw[Zao c5,cond_true,cond_true]
  exact Zaa kp rfl
 rw[Zag c5,cond_false]
 by_cases c6:(rgT a).1=6
 ·rw[Zao c6,cond_true]
  exact Zaa kp rfl
 ·rw[Zag c6,cond_false]
  have e:ZkF l.img l.mem a v=l.mem:=by
   unfold ZkF
   rw[if_neg c1,if_neg (by omega)]
  rw[e]
theorem ZpF (l:Zau) (a v:Int) (h:Zbx l) (_:0≤v∧v≤255):r373 (l.t,(a,(v,())))=some ((),((Zb3 l a v).t,())):=Zon l a v h
theorem Zpw (l:Zau) (a v:Int) (h:Zbx l):r384 (l.t,(a,(v,())))=some (((Zb3 l a v).t,()),()):=by
 unfold r384 m384 Zb3
 refine Zaa (Zbs (a,())) ?_
 show (bif eqI (rgT a).1 2 then _ else bif eqI (rgT a).1 3 then _ else bif eqI (rgT a).1 4 then _ else _)=_
 by_cases c2:(rgT a).1=2
 ·rw[Zao c2,if_pos c2,cond_true]
  exact Zaa (Zg9 l.ppu h.ppu (rgT a).2 v) rfl
 rw[Zag c2,if_neg c2,cond_false]
 by_cases c3:(rgT a).1=3
 ·rw[Zao c3,if_pos c3,cond_true]
  exact Zaa (Zg3 l.apu h.apu (rgT a).2 v) rfl
 rw[Zag c3,if_neg c3,cond_false]
 by_cases c4:(rgT a).1=4
 ·rw[Zao c4,if_pos c4,cond_true]
  exact Zaa (Zg7 l.pad l.pads l.ppu.T v h.pads h.ppu.t) rfl
 rw[Zag c4,if_neg c4,cond_false]
 exact Zaa (Zms l.img l.mem a v h.mem) rfl
theorem ZqO (l:Zau) (a v:Int) (h:Zbx l) (_:0≤v∧v≤255):r384 (l.t,(a,(v,())))=some (((Zb3 l a v).t,()),()):=Zpw l a v h
theorem Zkj (l:Zau) (v:Int) (h:Zbx l) (hv:65530≤v∧v≤65534):r337 (l.t,(v,()))=some ((),((Zca l v).t,())):=by
 unfold r337 m337
 have e:wI (v+1)=v+1:=Zas (by omega) (by omega)
 have k:=ZbJ l.img l.mem (v+1) h.mem
 rw[←e]at k
 refine Zaa (ZbJ l.img l.mem v h.mem) (Zaa k (Zaa (Zel (Zba l.img l.mem v,(Zba l.img l.mem (wI (v+1)),()))) (Zaa (ZrD l.mem l.cpu (ZkB (Zba l.img l.mem v) (Zba l.img l.mem (wI (v+1)))) h.mem.ram h.cpu) ?_)))
 rw[e];rfl
theorem ZnF (l:Zau) (a:Int):(ZdU l a).ppu.table=l.ppu.table∧(ZdU l a).ppu.dots=l.ppu.dots∧(ZdU l a).frames=l.frames∧(ZdU l a).samples=l.samples:=by
 obtain ⟨e1,e2⟩:=Zhw l.ppu (rgT a).2
 unfold ZdU
 repeat' split
 all_goals first|exact ⟨e1,e2,rfl,rfl⟩|exact ⟨rfl,rfl,rfl,rfl⟩
theorem ZmF (l:Zau) (a v:Int):(Zb3 l a v).ppu.dots=l.ppu.dots∧(Zb3 l a v).frames=l.frames∧(Zb3 l a v).samples=l.samples:=by
 have e2:(ZcA l.ppu (rgT a).2 v).dots=l.ppu.dots:=Zit _ _ _
 unfold Zb3
 repeat' split
 all_goals first|exact ⟨e2,rfl,rfl⟩|exact ⟨rfl,rfl,rfl⟩
theorem Zr3 (l:Zau) (op arg:Int):(opL l op arg).img=l.img∧(opL l op arg).pads=l.pads∧(opL l op arg).ppu.dots=l.ppu.dots∧(opL l op arg).frames=l.frames∧(opL l op arg).samples=l.samples:=by
 unfold opL
 split
 ·obtain ⟨f1,f2,f3,f4,f5,f6⟩:=Zma l (accA op arg l.cpu.x)
  obtain ⟨g1,g2,g3,g4⟩:=ZnF l (accA op arg l.cpu.x)
  exact ⟨f1,f5,g2,g3,g4⟩
 split
 ·obtain ⟨f1,f2,f3,f4,f5,f6⟩:=ZhD l (accA op arg l.cpu.x) (l.cpu.a%256)
  obtain ⟨g1,g2,g3⟩:=ZmF l (accA op arg l.cpu.x) (l.cpu.a%256)
  exact ⟨f1,f5,g1,g2,g3⟩
 ·exact ⟨rfl,rfl,rfl,rfl,rfl⟩
theorem Zuy (l:Zau) (op arg:Int) (h:Zbx l) (hr:l.reads.length≤4398046511000) (ha:0≤arg∧arg≤65535):r338 (l.t,((op,(arg,())),()))=some ((),((opL l op arg).t,())):=by
 unfold r338 m338 opL
 refine Zaa (ZdZ op arg l.cpu h.cpu ha) ?_
 show (bif eqI (ZaG op) 1 then _ else bif eqI (ZaG op) 2 then _ else _)=_
 by_cases o1:ZaG op=1
 ·rw[Zao o1,if_pos o1,cond_true]
  refine Zaa (ZqT l (accA op arg l.cpu.x) h hr) ?_
  have hv:=Zsa h (accA op arg l.cpu.x)
  obtain ⟨f1,f2,f3,f4,f5,f6⟩:=Zma l (accA op arg l.cpu.x)
  obtain ⟨g1,g2,g3,g4⟩:=ZnF l (accA op arg l.cpu.x)
  generalize ZhT l (accA op arg l.cpu.x)=v at hv⊢
  generalize ZdU l (accA op arg l.cpu.x)=l' at f1 f2 f3 f4 f5 f6 g1 g2 g3 g4⊢
  obtain ⟨img,pads,mem,cpu,⟨pT,pc,ps,pa,pp,pb,ptb,pds⟩,apu,pad,nmi,st,fr,sm,rd⟩:=l'
  have f1:img=l.img:=f1
  have f2:mem=l.mem:=f2
  have f3:cpu=l.cpu:=f3
  have f5:pads=l.pads:=f5
  have g1:ptb=l.ppu.table:=g1
  have g2:pds=l.ppu.dots:=g2
  have g3:fr=l.frames:=g3
  have g4:sm=l.samples:=g4
  subst f1 f2 f3 f5 g1 g2 g3 g4
  exact Zaa (Zjx l.mem l.cpu op arg v h.mem.ram h.cpu hv) rfl
 rw[Zag o1,if_neg o1,cond_false]
 by_cases o2:ZaG op=2
 ·rw[Zao o2,if_pos o2,cond_true]
  have ev:accV op l.cpu.a=l.cpu.a%256:=by unfold accV;rw[if_pos o2]
  have kw:=ZpF l (accA op arg l.cpu.x) (l.cpu.a%256) h (mod256 _)
  rw[←ev]at kw
  refine Zaa kw ?_
  rw[ev]
  have hq:=ZoQ h (accA op arg l.cpu.x) (l.cpu.a%256)
  obtain ⟨f1,f2,f3,f4,f5,f6⟩:=ZhD l (accA op arg l.cpu.x) (l.cpu.a%256)
  obtain ⟨g1,g2,g3⟩:=ZmF l (accA op arg l.cpu.x) (l.cpu.a%256)
  generalize Zb3 l (accA op arg l.cpu.x) (l.cpu.a%256)=l' at hq f1 f2 f3 f4 f5 f6 g1 g2 g3⊢
  have h1:=hq.mem.ram
  have h2:=hq.cpu
  clear hq
  obtain ⟨img,pads,mem,cpu,⟨pT,pc,ps,pa,pp,pb,ptb,pds⟩,apu,pad,nmi,st,fr,sm,rd⟩:=l'
  have f1:img=l.img:=f1
  have f4:rd=l.reads:=f4
  have f5:pads=l.pads:=f5
  have g1:pds=l.ppu.dots:=g1
  have g2:fr=l.frames:=g2
  have g3:sm=l.samples:=g3
  subst f1 f4 f5 g1 g2 g3
  exact Zaa (Zjx mem cpu op arg 0 h1 h2 (by decide)) rfl
 ·rw[Zag o2,if_neg o2,cond_false]
  have ev:accV op l.cpu.a=0:=by unfold accV;rw[if_neg o2]
  have k:=Zjx l.mem l.cpu op arg 0 h.mem.ram h.cpu (by decide)
  rw[←ev]at k
  refine Zaa k ?_
  rw[ev];rfl
theorem Zql {l:Zau} (h:Zbx l):leN (l.frames.length+1) (E.most .n)=true∧leN (l.samples.length+1) (E.most .i)=true:=by
 have h1:=h.frn
 have h2:=h.sam
 have h3:=h.ppu.t
 unfold Zce at h1
 exact ⟨Zbn (by simp only[E.most];omega),Zbn (by simp only[E.most];omega)⟩
theorem ZqV (l:Zau) (h:Zbx l) (ht:l.ppu.T<20000):r339 (l.t,())=some ((),((Zgf l).t,())):=by
 obtain ⟨hf,hs⟩:=Zql h
 have kp:=Zvt l.ppu h.ppu ht
 have ka:=Zm7 l.apu h.apu (by rw[h.t];exact ht)
 have et:=Zgg l.ppu
 unfold r339 m339
 refine Zaa kp ?_
 clear kp h ht
 unfold Zgf
 obtain ⟨img,pads,mem,cpu,ppu,apu,pad,nmi,steps,frames,samples,reads⟩:=l
 dsimp only at hf hs ka et⊢
 generalize ZdJ ppu=q at et⊢
 generalize Zd6 ppu=b
 generalize ZcT ppu=fr
 generalize Zku ppu=aq
 generalize Zgv apu=b2 at ka⊢
 generalize Zf3 apu=sa at ka⊢
 generalize Zqk apu=a' at ka⊢
 obtain ⟨T,c,sc,ad,pal,bl,tb,ds⟩:=q
 have et:tb=ppu.table:=et
 subst et
 cases b with
 |true=>
  show (bif leN (frames.length+1) (E.most .n)then (bif nmi then _ else _)else none)=_
  rw[hf,cond_true]
  cases nmi with
  |true=>
   rw[cond_true]
   refine Zaa ka ?_
   cases b2 with
   |true=>show (bif leN (samples.length+1) (E.most .i)then _ else none)=_;rw[hs];rfl
   |false=>rfl
  |false=>
   rw[cond_false]
   refine Zaa ka ?_
   cases b2 with
   |true=>show (bif leN (samples.length+1) (E.most .i)then _ else none)=_;rw[hs];rfl
   |false=>rfl
 |false=>
  show (bif nmi then _ else _)=_
  cases nmi with
  |true=>
   rw[cond_true]
   refine Zaa ka ?_
   cases b2 with
   |true=>show (bif leN (samples.length+1) (E.most .i)then _ else none)=_;rw[hs];rfl
   |false=>rfl
  |false=>
   rw[cond_false]
   refine Zaa ka ?_
   cases b2 with
   |true=>show (bif leN (samples.length+1) (E.most .i)then _ else none)=_;rw[hs];rfl
   |false=>rfl
theorem Zs5 (l:Zau) (h:Zbx l) (ht:l.ppu.T<20000):r382 (l.t,())=some (((Zgf l).t,()),()):=by
 obtain ⟨hf,hs⟩:=Zql h
 have kp:=ZpB l.ppu h.ppu ht
 have ka:=Zns l.apu h.apu (by rw[h.t];exact ht)
 have eb:eqI (Int.tmod l.ppu.T 64) 48=Zd6 l.ppu:=by rw[ZaJ h.ppu.t.1];rfl
 unfold r382 m382
 refine Zaa kp (Zaa ka ?_)
 clear kp ka h ht
 unfold Zgf
 obtain ⟨img,pads,mem,cpu,ppu,apu,pad,nmi,steps,frames,samples,reads⟩:=l
 dsimp only at hf hs eb⊢
 show (bif eqI (Int.tmod ppu.T 64) 48 then (bif leN (frames.length+1) (E.most .n)then (bif Zgv apu then (bif leN (samples.length+1) (E.most .i)then (bif nmi then _ else _)else none)else bif nmi then _ else _)else none)else bif Zgv apu then (bif leN (samples.length+1) (E.most .i)then (bif nmi then _ else _)else none)else bif nmi then _ else _)=_
 rw[eb,hf,hs]
 generalize Zd6 ppu=b
 generalize Zgv apu=b2
 cases b<;>cases b2<;>cases nmi<;>rfl
theorem Zeu: ∀(n:Nat) (l:Zau),(Zbf n l).img=l.img∧(Zbf n l).pads=l.pads∧(Zbf n l).mem=l.mem∧(Zbf n l).ppu.table=l.ppu.table∧(Zbf n l).reads=l.reads
 |0,l=>⟨rfl,rfl,rfl,rfl,rfl⟩
 |n+1,l=>by
  obtain ⟨a,b,c,d,e⟩:=Zeu n (Zgf l)
  exact ⟨a,b,c,d.trans (Zgg l.ppu),e⟩
theorem ZhQ (c:Int) (hc:c≤7): ∀(d k:Nat) (i:Int) (l:Zau),0≤i→i+d=c→d<k→Zbx l→l.ppu.T+d≤20000→
  n285_0 r337 r338 r339 r258 r255 k (c,()) (l.t,()) (i,())=some (Sum.inl (c,()),((Zbf d l).t,()))
 |_,0,_,_,_,_,h,_,_=>absurd h (by omega)
 |0,k+1,i,l,h0,hi,_,_,_=>by
  show (bif ltI i c then _ else some (Sum.inl (i,()),(l.t,())))=_
  rw[Zam (by omega),cond_false,show i=c by omega];rfl
 |d+1,k+1,i,l,h0,hi,hk,h,ht=>by
  show (bif ltI i c then (r339 (l.t,())).bind _ else _)=_
  rw[Zaj (by omega),cond_true]
  refine Zaa (ZqV l h (by omega)) ?_
  have e:wI (i+1)=i+1:=Zas (by omega) (by omega)
  have ih:=ZhQ c hc d k (i+1) (Zgf l) (by omega) (by omega) (by omega) (Zrt h (by omega)) (by rw[ZoN];omega)
  rw[←e]at ih
  show _=some (Sum.inl (c,()),((Zbf d (Zgf l)).t,()))
  generalize Zbf d (Zgf l)=z at ih⊢
  have e1:(Zgf l).ppu.table=l.ppu.table:=Zgg _
  have e2:(Zgf l).img=l.img:=rfl
  have e3:(Zgf l).pads=l.pads:=rfl
  have e4:(Zgf l).mem=l.mem:=rfl
  have e5:(Zgf l).reads=l.reads:=rfl
  generalize Zgf l=l' at ih e1 e2 e3 e4 e5⊢
  obtain ⟨img,pads,mem,cpu,⟨pT,pc,ps,pa,pp,pb,ptb,pds⟩,apu,pad,nmi,st,fr,sm,rd⟩:=l'
  have e1:ptb=l.ppu.table:=e1
  have e2:img=l.img:=e2
  have e3:pads=l.pads:=e3
  have e4:mem=l.mem:=e4
  have e5:rd=l.reads:=e5
  subst e1 e2 e3 e4 e5
  exact ih
theorem ZiP (c:Int) (hc:c≤7): ∀(d k:Nat) (i:Int) (l:Zau),0≤i→i+d=c→d<k→Zbx l→l.ppu.T+d≤20000→
  n374_0 r381 r382 k (c,()) (l.t,()) (i,())=some (Sum.inl (c,()),((Zbf d l).t,()))
 |_,0,_,_,_,_,h,_,_=>absurd h (by omega)
 |0,k+1,i,l,h0,hi,_,_,_=>by
  show (bif ltI i c then _ else some (Sum.inl (i,()),(l.t,())))=_
  rw[Zam (by omega),cond_false,show i=c by omega];rfl
 |d+1,k+1,i,l,h0,hi,hk,h,ht=>by
  show (bif ltI i c then (r382 (l.t,())).bind _ else _)=_
  rw[Zaj (by omega),cond_true]
  refine Zaa (Zs5 l h (by omega)) ?_
  have e:wI (i+1)=i+1:=Zas (by omega) (by omega)
  have ih:=ZiP c hc d k (i+1) (Zgf l) (by omega) (by omega) (by omega) (Zrt h (by omega)) (by rw[ZoN];omega)
  rw[←e]at ih
  exact ih
theorem ZlW (m:Zau) (c:Int) (hc:2≤c∧c≤7) (h:Zbx m) (ht:m.ppu.T+c≤20000):L285_0 (c,()) (m.t,()) (0,())=some (Sum.inl (c,()),((Zbf c.toNat m).t,())):=
 ZhQ c hc.2 c.toNat fuel 0 m (by omega) (by omega) (by have:=Zaq;omega) h (by omega)
theorem Zv1 (m:Zau) (c:Int) (hc:2≤c∧c≤7) (h:Zbx m) (ht:m.ppu.T+c≤20000):L374_0 (c,()) (m.t,()) (0,())=some (Sum.inl (c,()),((Zbf c.toNat m).t,())):=
 ZiP c hc.2 c.toNat fuel 0 m (by omega) (by omega) (by have:=Zaq;omega) h (by omega)
def Zcn (l:Zau):Zau:=if mayL l then ZcG l else l
theorem ZkU {m:Zau} {n:Nat} (h:Zbx m) (ht:m.ppu.T+n≤20000):wI ((Zbf n m).steps+1)=(Zbf n m).steps+1:=by
 obtain ⟨a,b,c,d⟩:=ZoO h ht
 have:=a.s0
 have:=a.s1
 exact Zas (by omega) (by omega)
theorem Zip {l:Zau} (hm:mayL l=true) {m:Zau} (hd:doL l=m) {c:Int} (hc:ZaU l=c):Zcn l={(Zbf c.toNat m)with steps:=(Zbf c.toNat m).steps+1}:=by
 unfold Zcn
 rw[if_pos hm]
 unfold ZcG
 rw[hc,hd]
theorem ZqU (l:Zau) (h:Zbx l) (hr:l.reads.length≤4398046511000):r285 (l.t,())=some ((mayL l,()),((Zcn l).t,())):=by
 have kf:=Zhk l.img l.mem l.cpu.pc h.mem h.cpu.pc
 have kc:=Zcf (ZaC l,())
 have hb:=Zld l
 have hT:=h.ppu.t
 have hP:=Zxh h
 have hdt:=Zxi l
 have ho:=Zht (ZaC l)
 unfold r285 m285
 show (bif l.nmi then _ else bif l.apu.irq then _ else _)=_
 cases hn:l.nmi with
 |true=>
  have hc:ZaU l=7:=by unfold ZaU Zgy;rw[hn];rfl
  have hd:doL l=Zca {l with nmi:=false} 65530:=by unfold doL;rw[hn];rfl
  have ew:wI (l.ppu.T+7)=l.ppu.T+7:=Zas (by omega) (by omega)
  rw[cond_true]
  refine Zaa kf (Zaa kc ?_)
  show (bif ltI 20000 (wI (l.ppu.T+7))then _ else bif l.nmi then _ else _)=_
  rw[ew,hn,cond_true]
  by_cases hm:l.ppu.T+7≤20000
  ·have hmay:mayL l=true:=decide_eq_true (by rw[hc];exact hm)
   rw[Zam (by omega),cond_false]
   refine Zaa (Zkj {l with nmi:=false} 65530 ⟨h.mem,h.pads,h.cpu,h.ppu,h.apu,h.pad,h.t,h.s0,h.s1,h.fr,h.frn,h.sam⟩ (by omega)) ?_
   rw[hd]at hP
   have hq:(Zca {l with nmi:=false} 65530).ppu.T+7≤20000:=hm
   have kt:L285_0 (7,()) ((Zca {l with nmi:=false} 65530).t,()) (0,())=some (Sum.inl (7,()),((Zbf 7 (Zca {l with nmi:=false} 65530)).t,())):=ZlW (Zca {l with nmi:=false} 65530) 7 (by omega) hP hq
   refine Zaa kt ?_
   clear kt
   have hw:=ZkU (n:=7) hP hq
   obtain ⟨r1,r2,r3,r4,r5⟩:=Zeu 7 (Zca {l with nmi:=false} 65530)
   rw[hmay,Zip hmay hd hc]
   show _=some ((true,()),(Zau.t {(Zbf 7 (Zca {l with nmi:=false} 65530))with steps:=(Zbf 7 (Zca {l with nmi:=false} 65530)).steps+1},()))
   rw[←hw]
   generalize Zbf 7 (Zca {l with nmi:=false} 65530)=q at r1 r2 r3 r4 r5⊢
   obtain ⟨img,pads,mem,cpu,⟨pT,pc,ps,pa,pp,pb,ptb,pds⟩,apu,pad,nmi,st,fr,sm,rd⟩:=q
   have r1:img=l.img:=r1
   have r2:pads=l.pads:=r2
   have r3:mem=Zfo l.mem l.cpu:=r3
   have r4:ptb=l.ppu.table:=r4
   have r5:rd=l.reads:=r5
   subst r1 r2 r3 r4 r5
   rfl
  ·have hmay:mayL l=false:=decide_eq_false (by rw[hc];exact hm)
   rw[Zaj (by omega),cond_true,hmay]
   unfold Zcn
   rw[hmay,if_neg (by simp)]
 |false=>
  rw[cond_false]
  by_cases hq:l.apu.irq=true∧l.cpu.i=false
  ·obtain ⟨hirq,hi⟩:=hq
   have hc:ZaU l=7:=by unfold ZaU Zgy;rw[hn,hirq,hi];rfl
   have hd:doL l=Zca l 65534:=by unfold doL;rw[hn,hirq,hi];rfl
   have ew:wI (l.ppu.T+7)=l.ppu.T+7:=Zas (by omega) (by omega)
   rw[hirq,cond_true]
   refine Zaa kf (Zaa kc ?_)
   show (bif !l.cpu.i then (bif ltI 20000 (wI (l.ppu.T+7))then _ else bif l.nmi then _ else bif !l.cpu.i then _ else _)else _)=_
   rw[ew,hn,hi,Bool.not_false,cond_true,cond_false,cond_true]
   by_cases hm:l.ppu.T+7≤20000
   ·have hmay:mayL l=true:=decide_eq_true (by rw[hc];exact hm)
    rw[Zam (by omega),cond_false]
    refine Zaa (Zkj l 65534 h (by omega)) ?_
    rw[hd]at hP
    have hq:(Zca l 65534).ppu.T+7≤20000:=hm
    have kt:L285_0 (7,()) ((Zca l 65534).t,()) (0,())=some (Sum.inl (7,()),((Zbf 7 (Zca l 65534)).t,())):=ZlW (Zca l 65534) 7 (by omega) hP hq
    refine Zaa kt ?_
    clear kt
    have hw:=ZkU (n:=7) hP hq
    obtain ⟨r1,r2,r3,r4,r5⟩:=Zeu 7 (Zca l 65534)
    rw[hmay,Zip hmay hd hc]
    show _=some ((true,()),(Zau.t {(Zbf 7 (Zca l 65534))with steps:=(Zbf 7 (Zca l 65534)).steps+1},()))
    rw[←hw]
    generalize Zbf 7 (Zca l 65534)=q at r1 r2 r3 r4 r5⊢
    obtain ⟨img,pads,mem,cpu,⟨pT,pc,ps,pa,pp,pb,ptb,pds⟩,apu,pad,nmi,st,fr,sm,rd⟩:=q
    have r1:img=l.img:=r1
    have r2:pads=l.pads:=r2
    have r3:mem=Zfo l.mem l.cpu:=r3
    have r4:ptb=l.ppu.table:=r4
    have r5:rd=l.reads:=r5
    subst r1 r2 r3 r4 r5
    rfl
   ·have hmay:mayL l=false:=decide_eq_false (by rw[hc];exact hm)
    rw[Zaj (by omega),cond_true,hmay]
    unfold Zcn
    rw[hmay,if_neg (by simp)]
  ·have hask:Zgy l=false:=by
    unfold Zgy
    rw[hn]
    cases h1:l.apu.irq with
    |false=>rfl
    |true=>
     cases h2:l.cpu.i with
     |true=>rfl
     |false=>exact absurd ⟨h1,h2⟩ hq
   have hc:ZaU l=Za0 (ZaC l):=by unfold ZaU;rw[hask];rfl
   have hd:doL l=opL l (ZaC l) (Zbl l):=by
    unfold doL
    unfold Zgy at hask
    rw[hn,Bool.false_or]at hask
    rw[hn,hask];rfl
   have ew:wI (l.ppu.T+Za0 (ZaC l))=l.ppu.T+Za0 (ZaC l):=Zas (by omega) (by omega)
   have key: ∀(X:Option (PTup o285×BTup i285)),
     X=(bif ltI 20000 (wI (l.ppu.T+Za0 (ZaC l)))then (some ((false,()),(l.t,())))else (r338 (l.t,((ZaC l,(Zbl l,())),()))).bind fun r2=>(L285_0 (Za0 (ZaC l),()) (Zau.t {lkM r2.2.1 with img:=l.img,pads:=l.pads,frames:=l.frames,samples:=l.samples,ppu:={(lkM r2.2.1).ppu with dots:=l.ppu.dots}},()) (0,())).bind fun r3=>Zai r3.1 (fun r4=>some ((true,()),(Zau.t {lkM r3.2.1 with img:=l.img,pads:=l.pads,mem:=⟨(lkM r2.2.1).mem.ram,(lkM r3.2.1).mem.bank⟩,ppu:={(lkM r3.2.1).ppu with table:=(lkM r2.2.1).ppu.table},reads:=(lkM r2.2.1).reads,steps:=wI ((lkM r3.2.1).steps+1)},()))) (fun r4=>some ((false,()),(Zau.t {lkM r3.2.1 with img:=l.img,pads:=l.pads,mem:=⟨(lkM r2.2.1).mem.ram,(lkM r3.2.1).mem.bank⟩,ppu:={(lkM r3.2.1).ppu with table:=(lkM r2.2.1).ppu.table},reads:=(lkM r2.2.1).reads},()))))→
     X=some ((mayL l,()),((Zcn l).t,())):=by
    intro X hX
    rw[hX,ew]
    by_cases hm:l.ppu.T+Za0 (ZaC l)≤20000
    ·have hmay:mayL l=true:=decide_eq_true (by rw[hc];exact hm)
     rw[Zam (by omega),cond_false]
     refine Zaa (Zuy l (ZaC l) (Zbl l) h hr (ZtN h.mem _)) ?_
     rw[hmay,Zip hmay hd hc]
     obtain ⟨q1,q2,q3,q4,q5⟩:=Zr3 l (ZaC l) (Zbl l)
     rw[hd]at hP hdt
     generalize opL l (ZaC l) (Zbl l)=m at q1 q2 q3 q4 q5 hP hdt⊢
     have hq:m.ppu.T+Za0 (ZaC l)≤20000:=by rw[hdt];exact hm
     have kt:=ZlW m (Za0 (ZaC l)) (by omega) hP hq
     have hw:=ZkU (n:=(Za0 (ZaC l)).toNat) hP (by omega)
     obtain ⟨r1,r2,r3,r4,r5⟩:=Zeu (Za0 (ZaC l)).toNat m
     clear hP hdt hq
     generalize Zbf (Za0 (ZaC l)).toNat m=q at kt hw r1 r2 r3 r4 r5⊢
     obtain ⟨img,pads,mem,cpu,⟨pT,pc,ps,pa,pp,pb,ptb,pds⟩,apu,pad,nmi,st,fr,sm,rd⟩:=m
     have q1:img=l.img:=q1
     have q2:pads=l.pads:=q2
     have q3:pds=l.ppu.dots:=q3
     have q4:fr=l.frames:=q4
     have q5:sm=l.samples:=q5
     subst q1 q2 q3 q4 q5
     refine Zaa kt ?_
     obtain ⟨img,pads,mem',cpu',⟨pT',pc',ps',pa',pp',pb',ptb',pds'⟩,apu',pad',nmi',st',fr',sm',rd'⟩:=q
     change img=l.img at r1
     change pads=l.pads at r2
     change mem'=mem at r3
     change ptb'=ptb at r4
     change rd'=rd at r5
     subst r1 r2 r3 r4 r5
     have hw:wI (st'+1)=st'+1:=hw
     show _=some ((true,()),(Zau.t ⟨_,_,_,_,_,_,_,_,st'+1,_,_,_⟩,()))
     rw[←hw]
     rfl
    ·have hmay:mayL l=false:=decide_eq_false (by rw[hc];exact hm)
     rw[Zaj (by omega),cond_true,hmay]
     unfold Zcn
     rw[hmay,if_neg (by simp)]
   cases hirq:l.apu.irq with
   |true=>
    have hi:l.cpu.i=true:=by
     cases h2:l.cpu.i with
     |true=>rfl
     |false=>exact absurd ⟨hirq,h2⟩ hq
    rw[cond_true]
    refine Zaa kf (Zaa kc ?_)
    show (bif !l.cpu.i then _ else bif ltI 20000 (wI (l.ppu.T+Za0 (ZaC l)))then _ else bif l.nmi then _ else bif !l.cpu.i then _ else _)=_
    rw[hn,hi,Bool.not_true,cond_false,cond_false,cond_false]
    exact key _ rfl
   |false=>
    rw[cond_false]
    refine Zaa kf (Zaa kc ?_)
    show (bif ltI 20000 (wI (l.ppu.T+Za0 (ZaC l)))then _ else bif l.nmi then _ else _)=_
    rw[hn,cond_false]
    exact key _ rfl
def ZcZ (l:Zau):Bool:=Zi0 l.img l.mem.t&&(ZfA l.pads&&(Zfj l.cpu.t&&(ZgS l.ppu.t&&(Zh5 l.apu.t&&(inR 0 255 l.pad.t.2.1&&(eqI l.apu.T l.ppu.T&&(inR 0 l.ppu.T l.steps&&(Zcm l.frames l.ppu.T&&ZdF l.samples l.ppu.T))))))))
theorem Zdd {l:Zau}:ZcZ l=true↔Zbx l:=by
 unfold ZcZ
 simp only[Bool.and_eq_true]
 constructor
 ·rintro ⟨a,b,c,d,e,f,g,h,i,j⟩
  have d:=ZdE.1 d
  obtain ⟨i1,i2⟩:=(ZeG d.t.1).1 i
  have h:=ZbI.1 h
  exact ⟨Zfx.1 a,Zec.1 b,ZiF.1 c,d,Zdy.1 e,ZbI.1 f,Ze4.1 g,h.1,h.2,i1,i2,(Zd3 d.t.1).1 j⟩
 ·rintro ⟨a,b,c,d,e,f,g,h0,h1,i1,i2,j⟩
  exact ⟨Zfx.2 a,Zec.2 b,ZiF.2 c,ZdE.2 d,Zdy.2 e,ZbI.2 f,Ze4.2 g,ZbI.2 ⟨h0,h1⟩,(ZeG d.t.1).2 ⟨i1,i2⟩,(Zd3 d.t.1).2 j⟩
theorem ZiN (l:Zau) (hs:Zcg l.t):r283 (l.t,())=some ((ZcZ l,()),()):=by
 obtain ⟨h1,h2,h3,h4,⟨h5,_,_⟩,h6,h7⟩:=hs
 have h2:l.pads.length≤4398046511104:=h2
 unfold r283 m283 ZcZ
 refine Zaa (ZgI l.img l.mem.t h1 h3) ?_
 show (bif Zi0 l.img l.mem.t then _ else _)=_
 cases Zi0 l.img l.mem.t with
 |false=>rfl
 |true=>
 rw[cond_true,Bool.true_and]
 refine Zaa (ZfP l.pads (by omega)) ?_
 show (bif ZfA l.pads then _ else _)=_
 cases ZfA l.pads with
 |false=>rfl
 |true=>
 rw[cond_true,Bool.true_and]
 refine Zaa (ZgG l.cpu.t) ?_
 show (bif Zfj l.cpu.t then _ else _)=_
 cases Zfj l.cpu.t with
 |false=>rfl
 |true=>
 rw[cond_true,Bool.true_and]
 refine Zaa (Zkf l.ppu.t h4) ?_
 show (bif ZgS l.ppu.t then _ else _)=_
 cases e:ZgS l.ppu.t with
 |false=>rfl
 |true=>
 have hT:=(ZdE.1 e).t
 rw[cond_true,Bool.true_and]
 refine Zaa (ZeI l.apu.t) ?_
 show (bif Zh5 l.apu.t then _ else _)=_
 cases Zh5 l.apu.t with
 |false=>rfl
 |true=>
 rw[cond_true,Bool.true_and]
 refine Zaa (ZdB (l.pad.t.2.1,())) ?_
 show (bif inR 0 255 l.pad.t.2.1 then _ else _)=_
 cases inR 0 255 l.pad.t.2.1 with
 |false=>rfl
 |true=>
 rw[cond_true,Bool.true_and]
 show (bif eqI l.apu.T l.ppu.T then _ else _)=_
 cases eqI l.apu.T l.ppu.T with
 |false=>rfl
 |true=>
 rw[cond_true,Bool.true_and]
 refine Zaa (ZbM (l.steps,(0,(l.ppu.T,())))) ?_
 show (bif inR 0 l.ppu.T l.steps then _ else _)=_
 cases inR 0 l.ppu.T l.steps with
 |false=>rfl
 |true=>
 rw[cond_true,Bool.true_and]
 refine Zaa (ZgH l.frames l.ppu.T h5 hT.1 hT.2) ?_
 show (bif Zcm l.frames l.ppu.T then _ else _)=_
 cases Zcm l.frames l.ppu.T with
 |false=>rfl
 |true=>
 rw[cond_true,Bool.true_and]
 exact Zaa (Zgj l.samples l.ppu.T hT.1 hT.2) rfl
theorem Zf8 (l:Zau) (hs:Zcg l.t):r340 (l.t,())=some ((ZcZ l,()),()):=by
 obtain ⟨h1,h2,h3,h4,⟨h5,_,_⟩,h6,h7⟩:=hs
 have h2:l.pads.length≤4398046511104:=h2
 unfold r340 m340 ZcZ
 rw[Bool.and_left_comm (Zi0 l.img l.mem.t)]
 refine Zaa (Zf9 l.pads (by omega)) ?_
 show (bif ZfA l.pads then _ else _)=_
 cases ZfA l.pads with
 |false=>rfl
 |true=>
 rw[cond_true,Bool.true_and]
 refine Zaa (Zg6 l.img l.mem.t h1 h3) ?_
 show (bif Zi0 l.img l.mem.t then _ else _)=_
 cases Zi0 l.img l.mem.t with
 |false=>rfl
 |true=>
 rw[cond_true,Bool.true_and]
 refine Zaa (Zg4 l.cpu.t) ?_
 show (bif Zfj l.cpu.t then _ else _)=_
 cases Zfj l.cpu.t with
 |false=>rfl
 |true=>
 rw[cond_true,Bool.true_and]
 refine Zaa (ZeU l.ppu.t h4) ?_
 show (bif ZgS l.ppu.t then _ else _)=_
 cases e:ZgS l.ppu.t with
 |false=>rfl
 |true=>
 have hT:=(ZdE.1 e).t
 rw[cond_true,Bool.true_and]
 refine Zaa (ZeT l.apu.t) ?_
 show (bif Zh5 l.apu.t then _ else _)=_
 cases Zh5 l.apu.t with
 |false=>rfl
 |true=>
 rw[cond_true,Bool.true_and]
 refine Zaa (Zcv (l.pad.t.2.1,())) ?_
 show (bif inR 0 255 l.pad.t.2.1 then _ else _)=_
 cases inR 0 255 l.pad.t.2.1 with
 |false=>rfl
 |true=>
 rw[cond_true,Bool.true_and]
 show (bif eqI l.ppu.T l.apu.T then _ else _)=_
 rw[show eqI l.ppu.T l.apu.T=eqI l.apu.T l.ppu.T by by_cases e:l.ppu.T=l.apu.T;rw[Zao e,Zao e.symm];rw[Zag e,Zag (Ne.symm e)]]
 cases eqI l.apu.T l.ppu.T with
 |false=>rfl
 |true=>
 rw[cond_true,Bool.true_and]
 refine Zaa (ZbV (l.steps,(0,(l.ppu.T,())))) ?_
 show (bif inR 0 l.ppu.T l.steps then _ else _)=_
 cases inR 0 l.ppu.T l.steps with
 |false=>rfl
 |true=>
 rw[cond_true,Bool.true_and]
 refine Zaa (Zg5 l.frames l.ppu.T h5 hT.1 hT.2) ?_
 show (bif Zcm l.frames l.ppu.T then _ else _)=_
 cases Zcm l.frames l.ppu.T with
 |false=>rfl
 |true=>
 rw[cond_true,Bool.true_and]
 show some ((eqI (l.samples.length:Int) (wI (Int.tdiv l.ppu.T 16)),()),())=_
 unfold ZdF
 rw[Zas (by rw[Zir hT.1];omega) (by rw[Zir hT.1];omega)]
theorem ZsF (l:Zau) (hs:Zcg l.t):r284 (l.t,())=some ((l.t,()),()):=by
 obtain ⟨h1,h2,h3,h4,h5,h6,h7⟩:=hs
 unfold r284 m284
 exact Zaa (ZgC l.img h1) (Zaa (Za6 l.pads h2) (Zaa (Znb l.mem.t h3) (Zaa (Znc l.ppu.t h4) (Zaa (ZfM l.frames h5) (Zaa (Za6 l.samples h6) (Zaa (Za6 l.reads h7) rfl))))))
theorem ZlN (l:Zau) (hs:Zcg l.t):r341 (l.t,())=some ((l.t,()),()):=by
 obtain ⟨h1,h2,h3,h4,h5,h6,h7⟩:=hs
 have h2:l.pads.length≤4398046511104:=h2
 have h6:l.samples.length≤4398046511104:=h6
 have h7:l.reads.length≤4398046511104:=h7
 unfold r341 m341
 refine Zaa (Zen l.img h1) ?_
 show (bif leN (0+l.pads.length) (E.most .i)then _ else none)=_
 rw[Zbn (show 0+l.pads.length≤E.most .i by simp only[E.most];omega),cond_true]
 refine Zaa (ZiS l.mem.t h3) (Zaa (Zep l.ppu.t h4) (Zaa (Zhn l.frames h5) ?_))
 show (bif leN (0+l.samples.length) (E.most .i)then (bif leN (0+l.reads.length) (E.most .i)then _ else none)else none)=_
 rw[Zbn (show 0+l.samples.length≤E.most .i by simp only[E.most];omega),cond_true,Zbn (show 0+l.reads.length≤E.most .i by simp only[E.most];omega),cond_true]
 rfl
theorem Zv0 (l:Zau) (h:Zbx l) (hr:l.reads.length≤4398046511000):r381 (l.t,())=some (((doL l).t,(ZaU l,())),()):=by
 have kf:=ZdI l.img l.mem l.cpu.pc h.mem h.cpu.pc
 have kc:=Zci (ZaC l,())
 have ka:=Zc5 (ZaC l) (Zbl l) l.cpu h.cpu (ZtN h.mem _)
 unfold r381 m381
 show (bif l.nmi then _ else bif l.apu.irq then (bif !l.cpu.i then _ else _)else _)=_
 cases hn:l.nmi with
 |true=>
  have hc:ZaU l=7:=by unfold ZaU Zgy;rw[hn];rfl
  have hd:doL l=Zca {l with nmi:=false} 65530:=by unfold doL;rw[hn];rfl
  rw[cond_true,hc,hd]
  exact Zaa (ZdH l.img l.mem l.cpu 65530 h.mem h.cpu (by omega)) rfl
 |false=>
  rw[cond_false]
  by_cases hq:l.apu.irq=true∧l.cpu.i=false
  ·obtain ⟨hirq,hi⟩:=hq
   have hc:ZaU l=7:=by unfold ZaU Zgy;rw[hn,hirq,hi];rfl
   have hd:doL l=Zca l 65534:=by unfold doL;rw[hn,hirq,hi];rfl
   rw[hirq,cond_true,hi,Bool.not_false,cond_true,hc,hd]
   exact Zaa (ZdH l.img l.mem l.cpu 65534 h.mem h.cpu (by omega)) rfl
  ·have hask:Zgy l=false:=by
    unfold Zgy
    rw[hn]
    cases h1:l.apu.irq with
    |false=>rfl
    |true=>
     cases h2:l.cpu.i with
     |true=>rfl
     |false=>exact absurd ⟨h1,h2⟩ hq
   have hc:ZaU l=Za0 (ZaC l):=by unfold ZaU;rw[hask];rfl
   have hd:doL l=opL l (ZaC l) (Zbl l):=by
    unfold doL
    unfold Zgy at hask
    rw[hn,Bool.false_or]at hask
    rw[hn,hask];rfl
   rw[hc,hd]
   have e:(bif l.apu.irq then (bif !l.cpu.i then (0:Nat)else 1)else 1)=1:=by
    cases h1:l.apu.irq with
    |false=>rfl
    |true=>
     cases h2:l.cpu.i with
     |true=>rfl
     |false=>exact absurd ⟨h1,h2⟩ hq
   have pick: ∀{A:Type} (x y:A),(bif l.apu.irq then (bif !l.cpu.i then x else y)else y)=y:=by
    intro A x y
    cases h1:l.apu.irq with
    |false=>rfl
    |true=>
     cases h2:l.cpu.i with
     |true=>rfl
     |false=>exact absurd ⟨h1,h2⟩ hq
   refine (pick _ _).trans ?_
   refine Zaa kf (Zaa ka ?_)
   unfold opL
   show (bif eqI (ZaG (ZaC l)) 1 then _ else bif eqI (ZaG (ZaC l)) 2 then _ else _)=_
   by_cases o1:ZaG (ZaC l)=1
   ·rw[Zao o1,if_pos o1,cond_true]
    refine Zaa (Zs3 l (accA (ZaC l) (Zbl l) l.cpu.x) h hr) ?_
    have hv:=Zsa h (accA (ZaC l) (Zbl l) l.cpu.x)
    have hp:=ZuY h (accA (ZaC l) (Zbl l) l.cpu.x)
    generalize ZhT l (accA (ZaC l) (Zbl l) l.cpu.x)=v at hv⊢
    generalize ZdU l (accA (ZaC l) (Zbl l) l.cpu.x)=l' at hp⊢
    exact Zaa (Zdm l'.mem l'.cpu (ZaC l) (Zbl l) v hp.mem.ram hp.cpu) (Zaa kc rfl)
   rw[Zag o1,if_neg o1,cond_false]
   by_cases o2:ZaG (ZaC l)=2
   ·rw[Zao o2,if_pos o2,cond_true]
    have ev:accV (ZaC l) l.cpu.a=l.cpu.a%256:=by unfold accV;rw[if_pos o2]
    have kw:=ZqO l (accA (ZaC l) (Zbl l) l.cpu.x) (l.cpu.a%256) h (mod256 _)
    rw[←ev]at kw
    refine Zaa kw ?_
    rw[ev]
    have hp:=ZoQ h (accA (ZaC l) (Zbl l) l.cpu.x) (l.cpu.a%256)
    generalize Zb3 l (accA (ZaC l) (Zbl l) l.cpu.x) (l.cpu.a%256)=l' at hp⊢
    exact Zaa (Zdm l'.mem l'.cpu (ZaC l) (Zbl l) 0 hp.mem.ram hp.cpu) (Zaa kc rfl)
   ·rw[Zag o2,if_neg o2,cond_false]
    exact Zaa (Zdm l.mem l.cpu (ZaC l) (Zbl l) 0 h.mem.ram h.cpu) (Zaa kc rfl)
theorem Zs4 (l:Zau) (h:Zbx l) (hr:l.reads.length≤4398046511000):r374 (l.t,())=some ((if mayL l then (ZcG l).t else Ztb,(mayL l,())),()):=by
 have hb:=Zld l
 have hT:=h.ppu.t
 have hP:=Zxh h
 have hdt:=Zxi l
 unfold r374 m374
 refine Zaa (Zv0 l h hr) ?_
 show (bif ltI 20000 (wI ((doL l).ppu.T+ZaU l))then _ else _)=_
 rw[hdt,Zas (by omega) (by omega)]
 by_cases hm:l.ppu.T+ZaU l≤20000
 ·have hmay:mayL l=true:=decide_eq_true hm
  rw[Zam (by omega),cond_false,hmay,if_pos rfl]
  have hq:(doL l).ppu.T+ZaU l≤20000:=by rw[hdt];exact hm
  refine Zaa (Zv1 (doL l) (ZaU l) hb hP hq) ?_
  have hw:=ZkU (n:=(ZaU l).toNat) hP (by omega)
  show _=some ((Zau.t {(Zbf (ZaU l).toNat (doL l))with steps:=(Zbf (ZaU l).toNat (doL l)).steps+1},(true,())),())
  rw[←hw]
  rfl
 ·have hmay:mayL l=false:=decide_eq_false hm
  rw[Zaj (by omega),cond_true,hmay]
  rfl
theorem Zfw {l:Zau} (h:Zbx l) (hr:l.reads.length≤4398046511000):Zcg l.t:=h.s (by omega)
theorem Zmp (l:Zau) (h:Zbx l) (hr:l.reads.length≤4398046511000):r342 (l.t,())=some (((Zcn l).t,(mayL l,())),()):=by
 have hs:=Zfw h hr
 unfold r342 m342 Zcn
 refine Zaa (Zf8 l hs) ?_
 show (bif !ZcZ l then _ else _)=_
 rw[Zdd.2 h,Bool.not_true,cond_false]
 refine Zaa (ZlN l hs) (Zaa (Zs4 l h hr) ?_)
 show (bif mayL l then _ else _)=_
 cases hm:mayL l with
 |true=>rfl
 |false=>
  rw[cond_false]
  exact Zaa (ZlN l hs) rfl
theorem Zt7 (l:Zau):(doL l).img=l.img∧(doL l).pads=l.pads:=by
 unfold doL
 split
 ·exact ⟨rfl,rfl⟩
 split
 ·exact ⟨rfl,rfl⟩
 ·obtain ⟨a,b,_⟩:=Zr3 l (ZaC l) (Zbl l);exact ⟨a,b⟩
theorem Zmu (l:Zau):(ZcG l).img=l.img∧(ZcG l).pads=l.pads:=by
 obtain ⟨a,b,_⟩:=Zeu (ZaU l).toNat (doL l)
 exact ⟨a.trans (Zt7 l).1,b.trans (Zt7 l).2⟩
theorem Zsd: ∀(n:Nat) (l:Zau),(runL n l).1.img=l.img∧(runL n l).1.pads=l.pads
 |0,l=>⟨rfl,rfl⟩
 |n+1,l=>by
  unfold runL
  split
  ·obtain ⟨a,b⟩:=Zsd n (ZcG l)
   exact ⟨a.trans (Zmu l).1,b.trans (Zmu l).2⟩
  ·exact ⟨rfl,rfl⟩
theorem ZwT {j:Nat} {l:Zau} (h:mayL l=false):runL (j+1) l=(l,0):=by
 show (if mayL l then _ else _)=_
 rw[h,if_neg (by simp)]
theorem ZwU {j:Nat} {l:Zau} (h:mayL l=true):runL (j+1) l=((runL j (ZcG l)).1,(runL j (ZcG l)).2+1):=by
 show (if mayL l then _ else _)=_
 rw[h,if_pos rfl]
theorem Ztx {l:Zau} (h:mayL l=false):Zcn l=l:=by unfold Zcn;rw[h,if_neg (by simp)]
theorem ZnK {l:Zau} (h:mayL l=true):Zcn l=ZcG l:=by unfold Zcn;rw[h,if_pos rfl]
theorem Zgi (n:Int): ∀(k i j:Nat) (l:Zau),Zbx l→l.reads.length+j≤4398046511000→j<k→Zcd n=i+j→
  n216_0 r285 r283 r284 k (n,()) (l.t,()) ((i:Int),())=some (Sum.inl (((i+(runL j l).2:Nat):Int),()),((runL j l).1.t,()))
 |0,_,_,_,_,_,h,_=>absurd h (by omega)
 |k+1,i,j,l,h,hr,hk,hm=>by
  have hb:=Zc0 n
  show (bif ltI (i:Int) (mnI n 3000)then (r285 (l.t,())).bind _ else some (Sum.inl ((i:Int),()),(l.t,())))=_
  cases j with
  |zero=>
   rw[ZhS,Zam (by unfold Zcd at hm;omega),cond_false]
   rfl
  |succ j=>
   rw[ZhS,Zaj (by unfold Zcd at hm;omega),cond_true]
   refine Zaa (ZqU l h (by omega)) ?_
   show (bif !mayL l then _ else _)=_
   cases hst:mayL l with
   |false=>
    rw[ZwT hst,Ztx hst,Bool.not_false,cond_true];rfl
   |true=>
    rw[ZwU hst,ZnK hst,Bool.not_true,cond_false]
    obtain ⟨a,_,_,d⟩:=Zrn h hst
    have ih:=Zgi n k (i+1) j (ZcG l) a (by omega) (by omega) (by omega)
    have ew:wI ((i:Int)+1)=((i+1:Nat):Int):=by rw[Zas (by omega) (by omega)];omega
    rw[show i+1+(runL j (ZcG l)).2=i+((runL j (ZcG l)).2+1) by omega,←ew]at ih
    obtain ⟨g1,g2⟩:=Zmu l
    show _=some (Sum.inl (((i+((runL j (ZcG l)).2+1):Nat):Int),()),((runL j (ZcG l)).1.t,()))
    generalize runL j (ZcG l)=z at ih⊢
    generalize ZcG l=l' at ih g1 g2⊢
    obtain ⟨img,pads,mem,cpu,ppu,apu,pad,nmi,st,fr,sm,rd⟩:=l'
    have g1:img=l.img:=g1
    have g2:pads=l.pads:=g2
    subst g1 g2
    exact ih
theorem Zgp (n:Int) (z:Tup Zih): ∀(k i j:Nat) (l:Zau),Zbx l→l.reads.length+j≤4398046511000→j<k→Zcd n=i+j→
  n290_0 r340 r342 r341 r105 k (n,()) (z,(l.t,())) ((i:Int),())=some (Sum.inl (((i+(runL j l).2:Nat):Int),()),(z,((runL j l).1.t,())))∨
  (∃y,n290_0 r340 r342 r341 r105 k (n,()) (z,(l.t,())) ((i:Int),())=some (Sum.inr (((i+(runL j l).2:Nat):Int),()),((runL j l).1.t,(y,()))))
 |0,_,_,_,_,_,h,_=>absurd h (by omega)
 |k+1,i,j,l,h,hr,hk,hm=>by
  have hb:=Zc0 n
  have e0: ∃D:Tup Zih,n290_0 r340 r342 r341 r105 (k+1) (n,()) (z,(l.t,())) ((i:Int),())=bif ltI (i:Int) (mnI n 3000)then (r342 (l.t,())).bind (fun r1=>
    bif (!r1.1.2.1)then (some ((Sum.inr ((i:Int),())),(l.t,(D,()))))else n290_0 r340 r342 r341 r105 k (n,()) (z,(r1.1.1,())) ((wI ((i:Int)+(1:Int))),()))else some (Sum.inl ((i:Int),()),(z,(l.t,()))):=
   ⟨_,Zaa (ZjH n) rfl⟩
  obtain ⟨D,e0⟩:=e0
  rw[e0]
  cases j with
  |zero=>
   rw[ZhS,Zam (by unfold Zcd at hm;omega),cond_false]
   exact .inl rfl
  |succ j=>
   rw[ZhS,Zaj (by unfold Zcd at hm;omega),cond_true,Zmp l h (by omega),Option.bind_some]
   show (bif !mayL l then _ else _)=_∨ ∃y,(bif !mayL l then _ else _)=_
   cases hst:mayL l with
   |false=>
    rw[ZwT hst,Bool.not_false,cond_true]
    exact .inr ⟨D,rfl⟩
   |true=>
    rw[ZwU hst,ZnK hst,Bool.not_true,cond_false]
    obtain ⟨a,_,_,d⟩:=Zrn h hst
    have ih:=Zgp n z k (i+1) j (ZcG l) a (by omega) (by omega) (by omega)
    have ew:wI ((i:Int)+1)=((i+1:Nat):Int):=by rw[Zas (by omega) (by omega)];omega
    rw[show i+1+(runL j (ZcG l)).2=i+((runL j (ZcG l)).2+1) by omega,←ew]at ih
    exact ih
def Zd2 (l:Zau) (n:Int):Tup Zih×Int:=if ZcZ l then ((runL (Zcd n) l).1.t,((runL (Zcd n) l).2:Int))else (Ztb,0)
theorem Zoi (l:Zau) (n:Int) (hs:Zcg l.t) (hr:l.reads.length≤1048576):r216 (l.t,(n,()))=some (((Zd2 l n).1,((Zd2 l n).2,())),()):=by
 have hb:=Zc0 n
 unfold r216 m216 Zd2
 refine Zaa (ZiN l hs) ?_
 show (bif !ZcZ l then _ else _)=_
 cases ho:ZcZ l with
 |false=>rfl
 |true=>
  have h:=Zdd.1 ho
  rw[Bool.not_true,cond_false,if_pos rfl]
  refine Zaa (ZsF l hs) ?_
  have k:=Zgi n fuel 0 (Zcd n) l h (by omega) (by have:=Zaq;omega) (by omega)
  simp only[Int.natCast_zero,Nat.zero_add]at k
  refine Zaa k ?_
  obtain ⟨g1,g2⟩:=Zsd (Zcd n) l
  generalize runL (Zcd n) l=d at g1 g2⊢
  obtain ⟨⟨img,pads,mem,cpu,ppu,apu,pad,nmi,st,fr,sm,rd⟩,m⟩:=d
  have g1:img=l.img:=g1
  have g2:pads=l.pads:=g2
  subst g1 g2
  rfl
theorem ZoH (l:Zau) (n:Int) (hs:Zcg l.t) (hr:l.reads.length≤1048576):r290 (l.t,(n,()))=some (((Zd2 l n).1,((Zd2 l n).2,())),()):=by
 have hb:=Zc0 n
 unfold r290 m290 Zd2
 refine Zaa (Zf8 l hs) ?_
 show (bif !ZcZ l then _ else _)=_
 cases ho:ZcZ l with
 |false=>rfl
 |true=>
  have h:=Zdd.1 ho
  rw[Bool.not_true,cond_false,if_pos rfl]
  refine Zaa (ZlN l hs) ?_
  have k:=Zgp n Ztb fuel 0 (Zcd n) l h (by omega) (by have:=Zaq;omega) (by omega)
  simp only[Int.natCast_zero,Nat.zero_add]at k
  rcases k with k| ⟨y,k⟩
  ·exact Zaa k rfl
  ·exact Zaa k rfl
theorem ZrV:Zcg Ztb:=⟨⟨by decide,(fun l hl=>by cases hl),by decide⟩,by decide,by decide,⟨by decide,by decide⟩,⟨by decide,(fun l hl=>by cases hl),by decide⟩,by decide,by decide⟩
theorem Ztc {l:Zau} (hr:l.reads.length≤1048576) (n:Int):Zcg (Zd2 l n).1:=by
 unfold Zd2
 split
 ·rename_i ho
  obtain ⟨a,b,c,d⟩:=ZwS (n:=Zcd n) (Zdd.1 ho)
  have:=Zc0 n
  exact a.s (by omega)
 ·exact ZrV
def ZdD:MemM:=⟨List.replicate 512 0,0⟩
def ZrZ (f:List (List Int)):CpuM:=⟨0,0,255,vecN f ZdD 65532,false,false,false,true⟩
def newL (f:List (List Int)) (p:List Int):Zau:=⟨f,p,ZdD,ZrZ f,⟨0,0,0,0,0,false,List.replicate 16 0,[]⟩,⟨0,0,0,0,0,false,false⟩,⟨false,0⟩,false,0,[],[],[]⟩
theorem Zop {f:List (List Int)} (h:ImgP f):MemP f ZdD:=
 ⟨h,⟨by show (List.replicate 512 (0:Int)).length=512;exact List.length_replicate,fun n hn=>by have:=List.eq_of_mem_replicate hn;omega⟩,by show (0:Int)≤0;decide,by have:=h.lo;show (0:Int)< (f.length:Int);omega⟩
theorem Zwd:PpuP ⟨0,0,0,0,0,false,List.replicate 16 0,[]⟩:=
 ⟨by decide,by decide,by decide,by decide,by decide,by decide,fun n hn=>by have:=List.eq_of_mem_replicate hn;omega,by decide,fun n hn=>by cases hn⟩
theorem Zwb:ApuP ⟨0,0,0,0,0,false,false⟩:=⟨by decide,by decide,by decide,by decide,by decide⟩
theorem Zwc (f:List (List Int)):CpuP (ZrZ f):=
 ⟨by show (0:Int)≤0∧(0:Int)≤255;decide,by show (0:Int)≤0∧(0:Int)≤255;decide,by show (0:Int)≤255∧(255:Int)≤255;decide,Zvy _ _ _⟩
theorem Zr0 {f:List (List Int)} {p:List Int} (h:ImgP f) (hp:Zh2 p):Zbx (newL f p):=
 ⟨Zop h,hp,Zwc f,Zwd,Zwb,by show (0:Int)≤0∧(0:Int)≤255;decide,rfl,by show (0:Int)≤0;decide,by show (0:Int)≤0;decide,(fun l hl=>by cases hl),
  by show ((0:Nat):Int)=Zce 0;decide,by show ((0:Nat):Int)=0/16;decide⟩
theorem Zoh (f:List (List Int)) (h:ImgP f):r281 ((f,()),())=some (((ZrZ f).t,()),()):=by
 have hm:=Zop h
 have k1:=ZlG f ZdD 65532 hm
 have k2:=ZlG f ZdD 65533 hm
 unfold r281 m281
 refine Zaa (y:=((ZdD.t,()),())) rfl ?_
 have kv:r336 ((f,()),(ZdD.t,((65532:Int),())))=some ((vecN f ZdD 65532,()),()):=by
  unfold r336 m336
  exact Zaa k1 (Zaa k2 (Zaa (Zel (Zba f ZdD 65532,(Zba f ZdD 65533,()))) rfl))
 exact Zaa kv rfl
theorem ZoG (f:List (List Int)) (h:ImgP f):r273 ((f,()),())=some (((ZrZ f).t,()),()):=by
 have hm:=Zop h
 have k1:=Zdn f ZdD 65532 hm
 have k2:=Zdn f ZdD 65533 hm
 unfold r273 m273
 refine Zaa (y:=((ZdD.t,()),())) rfl ?_
 exact Zaa k1 (Zaa k2 (Zaa (Zf6 (Zba f ZdD 65532,(Zba f ZdD 65533,()))) rfl))
theorem ZmQ (f:List (List Int)) (p:List Int) (h:ImgP f) (hp:Zh2 p):r215 ((f,()),(p,()))=some (((newL f p).t,(true,())),()):=by
 have hP:=Zr0 h hp
 have hs:=Zfw hP (by show 0≤_;omega)
 have hl:=hp.len
 unfold r215 m215
 refine Zaa (ZgC f h.small) (Zaa (Za6 p (by omega)) (Zaa (y:=((ZdD.t,()),())) rfl (Zaa (Zoh f h) (Zaa (y:=(((newL f p).ppu.t,()),())) rfl (Zaa (ZiN (newL f p) hs) ?_)))))
 show (bif !ZcZ (newL f p)then _ else _)=_
 rw[Zdd.2 hP,Bool.not_true,cond_false]
 rfl
theorem Zm3 (f:List (List Int)) (p:List Int) (h:ImgP f) (hp:Zh2 p):r289 ((f,()),(p,()))=some (((newL f p).t,(true,())),()):=by
 have hP:=Zr0 h hp
 have hs:=Zfw hP (by show 0≤_;omega)
 have hl:=hp.len
 unfold r289 m289
 refine Zaa (Zen f h.small) ?_
 show (bif leN (0+p.length) (E.most .i)then _ else none)=_
 rw[Zbn (show 0+p.length≤E.most .i by simp only[E.most];omega),cond_true]
 refine Zaa (y:=((ZdD.t,()),())) rfl (Zaa (ZoG f h) (Zaa (y:=(((newL f p).ppu.t,()),())) rfl (Zaa (Zf8 (newL f p) hs) ?_)))
 show (bif !ZcZ (newL f p)then _ else _)=_
 rw[Zdd.2 hP,Bool.not_true,cond_false]
 rfl
def fewM (s:Zac):Bool:=ZaB s.t&&leI s.steps 3000
def Zis (s:Zac):Tup Zih:=if fewM s then (Zd2 (newL s.img s.pads) s.steps).1 else Ztb
theorem Zx1 (s:Zac):Zcg (Zis s):=by
 unfold Zis
 split
 ·exact Ztc (by show 0≤_;omega) _
 ·exact ZrV
theorem ZfV (s:Zac) (hs:Zal s.t):r146 (s.t,())=some ((fewM s,()),()):=by
 unfold r146 m146 fewM
 refine Zaa (Zbg s.t hs) ?_
 show (bif ZaB s.t then _ else _)=_
 cases ZaB s.t<;>rfl
theorem ZlR (s:Zac) (hs:Zal s.t):r231 (s.t,())=some ((fewM s,()),()):=by
 unfold r231 m231 fewM
 refine Zaa (Za4 s.t hs) ?_
 show (bif ZaB s.t then _ else _)=_
 cases ZaB s.t<;>rfl
theorem Zif (s:Zac) (hs:Zal s.t):r147 (s.t,())=some ((Zis s,()),()):=by
 unfold r147 m147 Zis
 refine Zaa (ZfV s hs) ?_
 show (bif !fewM s then _ else _)=_
 cases hf:fewM s with
 |false=>rfl
 |true=>
  have hf2:=hf
  unfold fewM at hf2
  rw[Bool.and_eq_true]at hf2
  have h:=ZaD.1 hf2.1
  have hP:=Zr0 h.mem.img h.pads
  have hz:Zcg (newL s.img s.pads).t:=Zfw hP (by show 0≤_;omega)
  rw[Bool.not_true,cond_false,if_pos rfl]
  exact Zaa (ZmQ s.img s.pads h.mem.img h.pads) (Zaa (Zoi (newL s.img s.pads) s.steps hz (by show 0≤_;omega)) rfl)
theorem Zio (s:Zac) (hs:Zal s.t):r232 (s.t,())=some ((Zis s,()),()):=by
 unfold r232 m232 Zis
 refine Zaa (Za4 s.t hs) ?_
 show (bif !ZaB s.t then _ else bif ltI 3000 s.steps then _ else _)=_
 have e:ltI 3000 s.steps= !leI s.steps 3000:=ZqW _ _
 rw[e]
 cases ho:ZaB s.t with
 |false=>
  have hf:fewM s=false:=by unfold fewM;rw[ho];rfl
  rw[hf];rfl
 |true=>
  cases hl:leI s.steps 3000 with
  |false=>
   have hf:fewM s=false:=by unfold fewM;rw[ho,hl];rfl
   rw[hf];rfl
  |true=>
   have hf:fewM s=true:=by unfold fewM;rw[ho,hl];rfl
   have h:=ZaD.1 ho
   have hP:=Zr0 h.mem.img h.pads
   have hz:Zcg (newL s.img s.pads).t:=Zfw hP (by show 0≤_;omega)
   rw[hf,Bool.not_true,cond_false,cond_false,if_pos rfl]
   exact Zaa (Zm3 s.img s.pads h.mem.img h.pads) (Zaa (ZoH (newL s.img s.pads) s.steps hz (by show 0≤_;omega)) rfl)
def ZoA (s:Zac):Bool:=fewM s&&Zfz (Zq0 s.t) (Zey (Zis s))
theorem ZpM {s:Zac} (hs:Zal s.t):Zq1 (Zq0 s.t):=by
 obtain ⟨h1,h2,h3,h4,h5,h6⟩:=hs
 exact ⟨h5.2.2,h6.2,h4⟩
theorem Zky (s:Zac) (hs:Zal s.t):r77 (s.t,())=some ((ZoA s,()),()):=by
 unfold r77 m77 ZoA
 refine Zaa (ZfV s hs) ?_
 show (bif fewM s then _ else _)=_
 cases fewM s with
 |false=>rfl
 |true=>exact Zaa (Zkc s.t hs) (Zaa (Zif s hs) (Zaa (Zog (Zq0 s.t) (Zey (Zis s)) (ZpM hs)) rfl))
theorem ZkH (s:Zac) (hs:Zal s.t):r177 (s.t,())=some ((ZoA s,()),()):=by
 unfold r177 m177 ZoA
 refine Zaa (ZlR s hs) ?_
 show (bif fewM s then _ else _)=_
 cases fewM s with
 |false=>rfl
 |true=>exact Zaa (Zkn s.t hs) (Zaa (Zio s hs) (Zaa (Zf5 (Zq0 s.t) (Zey (Zis s)) (ZpM hs)) rfl))
theorem Zj6 {s:Tup ZaO} (h:Zal s):Zcg (ZiA s):=by
 obtain ⟨h1,h2,h3,h4,h5,h6⟩:=h
 unfold ZiA
 split
 ·exact ⟨h1,h2,h3,h5.1,h5.2.2,h6.2,h4⟩
 ·exact ⟨⟨by decide,(fun l hl=>by cases hl),by decide⟩,by decide,by decide,⟨by decide,by decide⟩,⟨by decide,(fun l hl=>by cases hl),by decide⟩,by decide,by decide⟩
theorem Zmo (a b:Tup Zih) (h:Zcg a) (hb:Zcg b):r236 (a,(b,()))=some ((ZrW a b,()),()):=by
 unfold r236 m236
 obtain ⟨_,_,h3,h4,h5⟩:=h
 simp only[ZjS (Zd1 a).1 (Zd1 b).1 h3,Ztv (ZhF a) (ZhF b) h4,Zrl (Zey a) (Zey b) h5 hb.2.2.2.2,Option.bind_some,ZaP]
 show some ((decide ((Zd1 a).1=(Zd1 b).1)&&(eqI (Zd1 a).2.1 (Zd1 b).2.1&&(Zo5 (ZkC a) (ZkC b)&&(ZuR (ZhF a) (ZhF b)&&(Zw1 (ZqS a) (ZqS b)&&(ZmT (ZiW a) (ZiW b)&&((a.2.2.2.2.2.2.2.2.2.2.2.2.2.2.2.2.2.2.2.2.2.2.2.2.2.2.2.2.2.1==b.2.2.2.2.2.2.2.2.2.2.2.2.2.2.2.2.2.2.2.2.2.2.2.2.2.2.2.2.2.1)&&
  (eqI a.2.2.2.2.2.2.2.2.2.2.2.2.2.2.2.2.2.2.2.2.2.2.2.2.2.2.2.2.2.2.1 b.2.2.2.2.2.2.2.2.2.2.2.2.2.2.2.2.2.2.2.2.2.2.2.2.2.2.2.2.2.2.1&&Zor (Zey a) (Zey b)))))))),()),())=_
 unfold ZrW ZqY
 generalize decide ((Zd1 a).1=(Zd1 b).1)=x1
 generalize eqI (Zd1 a).2.1 (Zd1 b).2.1=x2
 generalize Zo5 (ZkC a) (ZkC b)=x3
 generalize ZuR (ZhF a) (ZhF b)=x4
 generalize Zw1 (ZqS a) (ZqS b)=x5
 generalize ZmT (ZiW a) (ZiW b)=x6
 generalize Zor (Zey a) (Zey b)=x7
 cases x1<;>cases x2<;>cases x3<;>cases x4<;>cases x5<;>cases x6<;>simp
def ZbY (s:Zac):Bool:=fewM s&&ZrW (ZiA (ZcY s).t) (Zis s)
theorem ZjB (s:Zac) (hs:Zal s.t) (hr:Room s):r78 (s.t,())=some ((ZbY s,()),()):=by
 obtain ⟨ls,lr⟩:=ZkO hs hr
 unfold r78 m78 ZbY
 refine Zaa (ZfV s hs) ?_
 show (bif fewM s then _ else _)=_
 cases fewM s with
 |false=>rfl
 |true=>exact Zaa (Zid s hs hr) (Zaa (Zof (ZcY s).t ls) (Zaa (Zif s hs) (Zaa (ZlE (ZiA (ZcY s).t) (Zis s) (Zj6 ls)) rfl)))
theorem ZjW (s:Zac) (hs:Zal s.t) (hr:Room s):r178 (s.t,())=some ((ZbY s,()),()):=by
 obtain ⟨ls,lr⟩:=ZkO hs hr
 unfold r178 m178 ZbY
 refine Zaa (ZlR s hs) ?_
 show (bif fewM s then _ else _)=_
 cases fewM s with
 |false=>rfl
 |true=>exact Zaa (Zf7 s hs hr) (Zaa (ZoF (ZcY s).t ls) (Zaa (Zio s hs) (Zaa (Zmo (ZiA (ZcY s).t) (Zis s) (Zj6 ls) (Zx1 s)) rfl)))
def cpuJ (s:Zac) (g:Tup Zih):Bool:=Zo5 s.cpu.t (ZkC g)&&(ZmT s.pad.t (ZiW g)&&((s.nmi==g.2.2.2.2.2.2.2.2.2.2.2.2.2.2.2.2.2.2.2.2.2.2.2.2.2.2.2.2.2.1)&&(eqI s.T (ZhF g).1&&(ZqY s.mem.t (Zd1 g)&&decide (s.reads=(Zey g).2.2.1)))))
def ZcW (s:Zac):Bool:=fewM s&&cpuJ s (Zis s)
theorem ZlD (s:Zac) (hs:Zal s.t):r76 (s.t,())=some ((ZcW s,()),()):=by
 have hm:s.mem.t.1.length≤4398046511104:=hs.2.2.1
 have hrd:s.reads.length≤4398046511104:=hs.2.2.2.1
 unfold r76 m76 ZcW
 refine Zaa (ZfV s hs) ?_
 show (bif !fewM s then _ else _)=_
 cases fewM s with
 |false=>rfl
 |true=>
 rw[Bool.not_true,cond_false,Bool.true_and]
 refine Zaa (Zif s hs) ?_
 generalize Zis s=g
 have k1:=Zny s.mem.t (Zd1 g) hm
 have k2:=ZfO s.reads (Zey g).2.2.1 hrd
 unfold cpuJ
 show (bif Zo5 s.cpu.t (ZkC g)then (bif ZmT s.pad.t (ZiW g)then (bif s.nmi==g.2.2.2.2.2.2.2.2.2.2.2.2.2.2.2.2.2.2.2.2.2.2.2.2.2.2.2.2.2.1 then (bif eqI s.T (ZhF g).1 then _ else _)else _)else _)else _)=_
 cases Zo5 s.cpu.t (ZkC g)with
 |false=>rfl
 |true=>
 cases ZmT s.pad.t (ZiW g)with
 |false=>rfl
 |true=>
 cases s.nmi==g.2.2.2.2.2.2.2.2.2.2.2.2.2.2.2.2.2.2.2.2.2.2.2.2.2.2.2.2.2.1 with
 |false=>rfl
 |true=>
 cases eqI s.T (ZhF g).1 with
 |false=>rfl
 |true=>
 rw[cond_true,cond_true,cond_true,cond_true,Bool.true_and,Bool.true_and,Bool.true_and,Bool.true_and]
 refine Zaa k1 ?_
 show (bif ZqY s.mem.t (Zd1 g)then _ else _)=_
 cases ZqY s.mem.t (Zd1 g)with
 |false=>rfl
 |true=>exact Zaa k2 rfl
theorem Zmn (s:Zac) (hs:Zal s.t):r176 (s.t,())=some ((ZcW s,()),()):=by
 have hm:s.mem.t.1.length≤4398046511104:=hs.2.2.1
 have hrd:s.reads.length≤4398046511104:=hs.2.2.2.1
 unfold r176 m176 ZcW
 refine Zaa (ZlR s hs) ?_
 show (bif !fewM s then _ else _)=_
 cases fewM s with
 |false=>rfl
 |true=>
 rw[Bool.not_true,cond_false,Bool.true_and]
 refine Zaa (Zio s hs) ?_
 generalize Zis s=g
 have k1:=ZjS s.mem.t.1 (Zd1 g).1 hm
 have k2:=ZjS s.reads (Zey g).2.2.1 hrd
 unfold cpuJ ZqY
 show (bif Zo5 s.cpu.t (ZkC g)then (bif eqI s.mem.t.2.1 (Zd1 g).2.1 then _ else _)else _)=_
 cases Zo5 s.cpu.t (ZkC g)with
 |false=>rfl
 |true=>
 cases eqI s.mem.t.2.1 (Zd1 g).2.1 with
 |false=>
  show some ((false,()),())=some ((ZmT s.pad.t (ZiW g)&&(_&&(_&&false)),()),())
  rw[Bool.and_false,Bool.and_false,Bool.and_false]
 |true=>
 rw[cond_true,cond_true,Bool.true_and,Bool.true_and]
 refine Zaa k1 ?_
 show (bif decide (s.mem.t.1=(Zd1 g).1)then (bif ZmT s.pad.t (ZiW g)then (bif s.nmi==g.2.2.2.2.2.2.2.2.2.2.2.2.2.2.2.2.2.2.2.2.2.2.2.2.2.2.2.2.2.1 then _ else _)else _)else _)=_
 cases decide (s.mem.t.1=(Zd1 g).1)with
 |false=>
  show some ((false,()),())=some ((ZmT s.pad.t (ZiW g)&&(_&&(_&&false)),()),())
  rw[Bool.and_false,Bool.and_false,Bool.and_false]
 |true=>
 cases ZmT s.pad.t (ZiW g)with
 |false=>rfl
 |true=>
 cases s.nmi==g.2.2.2.2.2.2.2.2.2.2.2.2.2.2.2.2.2.2.2.2.2.2.2.2.2.2.2.2.2.1 with
 |false=>rfl
 |true=>
 rw[cond_true,cond_true,cond_true,Bool.true_and,Bool.true_and]
 refine Zaa k2 ?_
 show (bif decide (s.reads=(Zey g).2.2.1)then (some ((eqI s.T (ZhF g).1,()),()))else some ((false,()),()))=_
 cases decide (s.reads=(Zey g).2.2.1)with
 |false=>
  show some ((false,()),())=some ((_&&false,()),())
  rw[Bool.and_false]
 |true=>
  show some ((_,()),())=some ((_&&true,()),())
  rw[Bool.and_true]
def Zem (s:Zac):Bool:=ZcW s&&(ZoA s&&(ZbY s&&ZoW s))
theorem ZlC (s:Zac) (hs:Zal s.t) (hr:Room s):r16 (s.t,())=some ((Zem s,()),()):=by
 unfold r16 m16 Zem
 refine Zaa (ZlD s hs) ?_
 show (bif ZcW s then _ else _)=_
 cases ZcW s with
 |false=>rfl
 |true=>
 refine Zaa (Zky s hs) ?_
 show (bif ZoA s then _ else _)=_
 cases ZoA s with
 |false=>rfl
 |true=>
 refine Zaa (ZjB s hs hr) ?_
 show (bif ZbY s then _ else _)=_
 cases ZbY s with
 |false=>rfl
 |true=>exact Zaa (Zkx s hs hr) rfl
theorem Zmm (s:Zac) (hs:Zal s.t) (hr:Room s):r98 (s.t,())=some ((Zem s,()),()):=by
 unfold r98 m98 Zem
 refine Zaa (Zmn s hs) ?_
 show (bif ZcW s then _ else _)=_
 cases ZcW s with
 |false=>rfl
 |true=>
 refine Zaa (ZkH s hs) ?_
 show (bif ZoA s then _ else _)=_
 cases ZoA s with
 |false=>rfl
 |true=>
 refine Zaa (ZjW s hs hr) ?_
 show (bif ZbY s then _ else _)=_
 cases ZbY s with
 |false=>rfl
 |true=>exact Zaa (ZkG s hs hr) rfl

end Go.Proofs.YtleidaafbhojfaaGreatDoor.Plain
