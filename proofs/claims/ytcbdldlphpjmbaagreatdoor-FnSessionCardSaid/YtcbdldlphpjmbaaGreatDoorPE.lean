/- Plain laws of the printed functions: LockI, LockJ, LockK, LockL, TwinI. No condition beyond those that each lemma states. -/
import Derived.Test.YtcbdldlphpjmbaaGreatDoorPD
set_option linter.unusedVariables false
set_option linter.unusedSimpArgs false
namespace Go.Proofs.YtcbdldlphpjmbaaGreatDoor.Plain
open Go Go.Tev
theorem Zkr (l:Zv) (a:Int) (h:Qc l) (hr:l.reads.length≤4398046511000):r343 (l.t,(a,()))=some ((VH l a,()),((JH l a).t,())):=by
 have hl:leN (l.reads.length+1) (E.most .i)=true:=ZI (by simp only[E.most];omega);unfold r343 m343 JH VH;refine Za (WI (a,())) ?_;show (bif eqI (rgT a).1 2 then _ else bif eqI (rgT a).1 3 then _ else bif eqI (rgT a).1 4 then _ else bif eqI (rgT a).1 7 then _ else _)=_
 by_cases c2:(rgT a).1=2
 ·rw[Zn c2,Ze c2,Ze c2,Zb];refine Za (Zof l.ppu h.ppu (rgT a).2) ?_;obtain ⟨e1,e2⟩:=ZcE l.ppu (rgT a).2;generalize Yf l.ppu (rgT a).2=q at e1 e2⊢;obtain ⟨T,c,sc,ad,pal,bl,tb,ds⟩:=q;have e1:tb=l.ppu.table:=e1;have e2:ds=l.ppu.dots:=e2;subst e1 e2;show (bif leN (l.reads.length+1) (E.most .i)then _ else none)=_
  rw[hl];rfl
 rw[Zi c2,Zc c2,Zc c2,Zd];by_cases c3:(rgT a).1=3
 ·rw[Zn c3,Ze c3,Ze c3,Zb];refine Za (ZcK l.apu h.apu (rgT a).2) ?_;show (bif leN (l.reads.length+1) (E.most .i)then _ else none)=_
  rw[hl];rfl
 rw[Zi c3,Zc c3,Zc c3,Zd];by_cases c4:(rgT a).1=4
 ·rw[Zn c4,Ze c4,Ze c4,Zb];refine Za (ZcL l.pad l.pads l.ppu.T h.pads h.ppu.t) ?_;show (bif leN (l.reads.length+1) (E.most .i)then _ else none)=_
  rw[hl];rfl
 rw[Zi c4,Zc c4,Zc c4,Zd];by_cases c7:(rgT a).1=7
 ·have hz:ZR l.img l.mem a=0:=by
   unfold ZR;rw[Zc (by omega),Zc (by omega),Zc (by omega)]
  rw[Zn c7,hz];rfl
 ·rw[Zi c7,Zd];exact Za (V6 l.img l.mem a h.mem) rfl
theorem Zmn (l:Zv) (a:Int) (h:Qc l) (hr:l.reads.length≤4398046511000):r347 (l.t,(a,()))=some (((JH l a).t,(VH l a,())),()):=by
 have hl:leN (l.reads.length+1) (E.most .i)=true:=ZI (by simp only[E.most];omega);unfold r347 m347 JH VH;refine Za (Wp (a,())) ?_;show (bif eqI (rgT a).1 2 then _ else bif eqI (rgT a).1 3 then _ else bif eqI (rgT a).1 4 then _ else _)=_
 by_cases c2:(rgT a).1=2
 ·rw[Zn c2,Ze c2,Ze c2,Zb];refine Za (ZcS l.ppu h.ppu (rgT a).2) ?_;show (bif leN (l.reads.length+1) (E.most .i)then _ else none)=_
  rw[hl];rfl
 rw[Zi c2,Zc c2,Zc c2,Zd];by_cases c3:(rgT a).1=3
 ·rw[Zn c3,Ze c3,Ze c3,Zb];refine Za (ZcP l.apu h.apu (rgT a).2) ?_;show (bif leN (l.reads.length+1) (E.most .i)then _ else none)=_
  rw[hl];rfl
 rw[Zi c3,Zc c3,Zc c3,Zd];by_cases c4:(rgT a).1=4
 ·rw[Zn c4,Ze c4,Ze c4,Zb];refine Za (ZcR l.pad l.pads l.ppu.T h.pads h.ppu.t) ?_;show (bif leN (l.reads.length+1) (E.most .i)then _ else none)=_
  rw[hl];rfl
 rw[Zi c4,Zc c4,Zc c4,Zd];exact Za (Zci l.img l.mem a h.mem) rfl
theorem Zip (l:Zv) (a v:Int) (h:Qc l):r344 (l.t,(a,(v,())))=some ((),((JI l a v).t,())):=by
 unfold r344 m344 JI;refine Za (WI (a,())) ?_;show (bif eqI (rgT a).1 2 then _ else bif eqI (rgT a).1 3 then _ else bif eqI (rgT a).1 4 then _ else bif eqI (rgT a).1 1 then (bif eqI (rgT a).1 1 then _ else _)else bif eqI (rgT a).1 5 then (bif eqI (rgT a).1 5 then _ else _)else bif eqI (rgT a).1 6 then _ else _)=_
 by_cases c2:(rgT a).1=2
 ·rw[Zn c2,Ze c2,Zb];refine Za (ZlY l.ppu h.ppu (rgT a).2 v) ?_;have e2:(Yj l.ppu (rgT a).2 v).dots=l.ppu.dots:=Zc9 _ _ _;generalize Yj l.ppu (rgT a).2 v=q at e2⊢;obtain ⟨T,c,sc,ad,pal,bl,tb,ds⟩:=q;have e2:ds=l.ppu.dots:=e2;subst e2;rfl
 rw[Zi c2,Zc c2,Zd];by_cases c3:(rgT a).1=3
 ·rw[Zn c3,Ze c3,Zb];exact Za (Zb2 l.apu h.apu (rgT a).2 v) rfl
 rw[Zi c3,Zc c3,Zd];by_cases c4:(rgT a).1=4
 ·rw[Zn c4,Ze c4,Zb];exact Za (Zb5 l.pad l.pads l.ppu.T v h.pads h.ppu.t) rfl
 rw[Zi c4,Zc c4,Zd];have kp:=ZfT l.img l.mem a v h.mem;by_cases c1:(rgT a).1=1
 ·rw[Zn c1,Zb,Zb];exact Za kp rfl
 rw[Zi c1,Zd];by_cases c5:(rgT a).1=5
 ·rw[Zn c5,Zb,Zb];exact Za kp rfl
 rw[Zi c5,Zd];by_cases c6:(rgT a).1=6
 ·rw[Zn c6,Zb];exact Za kp rfl
 ·rw[Zi c6,Zd];have e:KJ l.img l.mem a v=l.mem:=by
   unfold KJ;rw[Zc c1,Zc (by omega)]
  rw[e]
theorem Zjp (l:Zv) (a v:Int) (h:Qc l) (_:0≤v∧v≤255):r344 (l.t,(a,(v,())))=some ((),((JI l a v).t,())):=Zip l a v h
theorem Zjc (l:Zv) (a v:Int) (h:Qc l):r348 (l.t,(a,(v,())))=some (((JI l a v).t,()),()):=by
 unfold r348 m348 JI;refine Za (Wp (a,())) ?_;show (bif eqI (rgT a).1 2 then _ else bif eqI (rgT a).1 3 then _ else bif eqI (rgT a).1 4 then _ else _)=_
 by_cases c2:(rgT a).1=2
 ·rw[Zn c2,Ze c2,Zb];exact Za (Zcj l.ppu h.ppu (rgT a).2 v) rfl
 rw[Zi c2,Zc c2,Zd];by_cases c3:(rgT a).1=3
 ·rw[Zn c3,Ze c3,Zb];exact Za (Zce l.apu h.apu (rgT a).2 v) rfl
 rw[Zi c3,Zc c3,Zd];by_cases c4:(rgT a).1=4
 ·rw[Zn c4,Ze c4,Zb];exact Za (Zch l.pad l.pads l.ppu.T v h.pads h.ppu.t) rfl
 rw[Zi c4,Zc c4,Zd];exact Za (ZgE l.img l.mem a v h.mem) rfl
theorem Zkm (l:Zv) (a v:Int) (h:Qc l) (_:0≤v∧v≤255):r348 (l.t,(a,(v,())))=some (((JI l a v).t,()),()):=Zjc l a v h
theorem ZeO (l:Zv) (v:Int) (h:Qc l) (hv:65530≤v∧v≤65534):r337 (l.t,(v,()))=some ((),((JM l v).t,())):=by
 unfold r337 m337;have e:wI (v+1)=v+1:=Zr (by omega) (by omega);have k:=V6 l.img l.mem (v+1) h.mem;rw[←e]at k;refine Za (V6 l.img l.mem v h.mem) (Za k (Za (Zal (ZR l.img l.mem v,(ZR l.img l.mem (wI (v+1)),()))) (Za (Zk7 l.mem l.cpu (Xq (ZR l.img l.mem v) (ZR l.img l.mem (wI (v+1)))) h.mem.ram h.cpu) ?_)));rw[e];rfl
theorem ZhK (l:Zv) (a:Int):(JH l a).ppu.table=l.ppu.table∧(JH l a).ppu.dots=l.ppu.dots∧(JH l a).frames=l.frames∧(JH l a).samples=l.samples:=by
 obtain ⟨e1,e2⟩:=ZcE l.ppu (rgT a).2;unfold JH
 repeat' split
 all_goals first|exact ⟨e1,e2,rfl,rfl⟩|exact ⟨rfl,rfl,rfl,rfl⟩
theorem ZgO (l:Zv) (a v:Int):(JI l a v).ppu.dots=l.ppu.dots∧(JI l a v).frames=l.frames∧(JI l a v).samples=l.samples:=by
 have e2:(Yj l.ppu (rgT a).2 v).dots=l.ppu.dots:=Zc9 _ _ _;unfold JI
 repeat' split
 all_goals first|exact ⟨e2,rfl,rfl⟩|exact ⟨rfl,rfl,rfl⟩
theorem Zly (l:Zv) (op arg:Int):(opL l op arg).img=l.img∧(opL l op arg).pads=l.pads∧(opL l op arg).ppu.dots=l.ppu.dots∧(opL l op arg).frames=l.frames∧(opL l op arg).samples=l.samples:=by
 unfold opL;split
 ·obtain ⟨f1,f2,f3,f4,f5,f6⟩:=Zgk l (QZ op arg l.cpu.x);obtain ⟨g1,g2,g3,g4⟩:=ZhK l (QZ op arg l.cpu.x);exact ⟨f1,f5,g2,g3,g4⟩
 split
 ·obtain ⟨f1,f2,f3,f4,f5,f6⟩:=ZcH l (QZ op arg l.cpu.x) (l.cpu.a%256);obtain ⟨g1,g2,g3⟩:=ZgO l (QZ op arg l.cpu.x) (l.cpu.a%256);exact ⟨f1,f5,g1,g2,g3⟩
 ·exact ⟨rfl,rfl,rfl,rfl,rfl⟩
theorem ZnL (l:Zv) (op arg:Int) (h:Qc l) (hr:l.reads.length≤4398046511000) (ha:0≤arg∧arg≤65535):r338 (l.t,((op,(arg,())),()))=some ((),((opL l op arg).t,())):=by
 unfold r338 m338 opL;refine Za (ZaA op arg l.cpu h.cpu ha) ?_;show (bif eqI (ZT op) 1 then _ else bif eqI (ZT op) 2 then _ else _)=_
 by_cases o1:ZT op=1
 ·rw[Zn o1,Ze o1,Zb];refine Za (Zkr l (QZ op arg l.cpu.x) h hr) ?_;have hv:=ZlH h (QZ op arg l.cpu.x);obtain ⟨f1,f2,f3,f4,f5,f6⟩:=Zgk l (QZ op arg l.cpu.x);obtain ⟨g1,g2,g3,g4⟩:=ZhK l (QZ op arg l.cpu.x);generalize VH l (QZ op arg l.cpu.x)=v at hv⊢;generalize JH l (QZ op arg l.cpu.x)=l' at f1 f2 f3 f4 f5 f6 g1 g2 g3 g4⊢;obtain ⟨img,pads,mem,cpu,⟨pT,pc,ps,pa,pp,pb,ptb,pds⟩,apu,pad,nmi,st,fr,sm,rd⟩:=l';have f1:img=l.img:=f1;have f2:mem=l.mem:=f2;have f3:cpu=l.cpu:=f3;have f5:pads=l.pads:=f5;have g1:ptb=l.ppu.table:=g1;have g2:pds=l.ppu.dots:=g2;have g3:fr=l.frames:=g3;have g4:sm=l.samples:=g4;subst f1 f2 f3 f5 g1 g2 g3 g4;exact Za (Zd6 l.mem l.cpu op arg v h.mem.ram h.cpu hv) rfl
 rw[Zi o1,Zc o1,Zd];by_cases o2:ZT op=2
 ·rw[Zn o2,Ze o2,Zb];have ev:Y1 op l.cpu.a=l.cpu.a%256:=by unfold Y1;rw[Ze o2]
  have kw:=Zjp l (QZ op arg l.cpu.x) (l.cpu.a%256) h (mod256 _);rw[←ev]at kw;refine Za kw ?_;rw[ev];have hq:=ZiJ h (QZ op arg l.cpu.x) (l.cpu.a%256);obtain ⟨f1,f2,f3,f4,f5,f6⟩:=ZcH l (QZ op arg l.cpu.x) (l.cpu.a%256);obtain ⟨g1,g2,g3⟩:=ZgO l (QZ op arg l.cpu.x) (l.cpu.a%256);generalize JI l (QZ op arg l.cpu.x) (l.cpu.a%256)=l' at hq f1 f2 f3 f4 f5 f6 g1 g2 g3⊢;have h1:=hq.mem.ram;have h2:=hq.cpu;clear hq;obtain ⟨img,pads,mem,cpu,⟨pT,pc,ps,pa,pp,pb,ptb,pds⟩,apu,pad,nmi,st,fr,sm,rd⟩:=l';have f1:img=l.img:=f1;have f4:rd=l.reads:=f4;have f5:pads=l.pads:=f5;have g1:pds=l.ppu.dots:=g1;have g2:fr=l.frames:=g2;have g3:sm=l.samples:=g3;subst f1 f4 f5 g1 g2 g3;exact Za (Zd6 mem cpu op arg 0 h1 h2 (by decide)) rfl
 ·rw[Zi o2,Zc o2,Zd];have ev:Y1 op l.cpu.a=0:=by unfold Y1;rw[Zc o2]
  have k:=Zd6 l.mem l.cpu op arg 0 h.mem.ram h.cpu (by decide);rw[←ev]at k;refine Za k ?_;rw[ev];rfl
theorem Zj4 {l:Zv} (h:Qc l):leN (l.frames.length+1) (E.most .n)=true∧leN (l.samples.length+1) (E.most .i)=true:=by
 have h1:=h.frn;have h2:=h.sam;have h3:=h.ppu.t;unfold YF at h1;exact ⟨ZI (by simp only[E.most];omega),ZI (by simp only[E.most];omega)⟩
theorem Zkt (l:Zv) (h:Qc l) (ht:l.ppu.T<20000):r339 (l.t,())=some ((),((YA l).t,())):=by
 obtain ⟨hf,hs⟩:=Zj4 h;have kp:=ZoK l.ppu h.ppu ht;have ka:=Zhb l.apu h.apu (by rw[h.t];exact ht);have et:=ZbT l.ppu;unfold r339 m339;refine Za kp ?_;clear kp h ht;unfold YA;obtain ⟨img,pads,mem,cpu,ppu,apu,pad,nmi,steps,frames,samples,reads⟩:=l;dsimp only at hf hs ka et⊢;generalize Jx ppu=q at et⊢;generalize JQ ppu=b;generalize Yw ppu=fr;generalize Kw ppu=aq;generalize YK apu=b2 at ka⊢;generalize Wh apu=sa at ka⊢;generalize Ub apu=a' at ka⊢;obtain ⟨T,c,sc,ad,pal,bl,tb,ds⟩:=q;have et:tb=ppu.table:=et;subst et;cases b with
 |true=>
  show (bif leN (frames.length+1) (E.most .n)then (bif nmi then _ else _)else none)=_
  rw[hf,Zb];cases nmi with
  |true=>
   rw[Zb];refine Za ka ?_;cases b2 with
   |true=>show (bif leN (samples.length+1) (E.most .i)then _ else none)=_;rw[hs];rfl
   |false=>rfl
  |false=>
   rw[Zd];refine Za ka ?_;cases b2 with
   |true=>show (bif leN (samples.length+1) (E.most .i)then _ else none)=_;rw[hs];rfl
   |false=>rfl
 |false=>
  show (bif nmi then _ else _)=_
  cases nmi with
  |true=>
   rw[Zb];refine Za ka ?_;cases b2 with
   |true=>show (bif leN (samples.length+1) (E.most .i)then _ else none)=_;rw[hs];rfl
   |false=>rfl
  |false=>
   rw[Zd];refine Za ka ?_;cases b2 with
   |true=>show (bif leN (samples.length+1) (E.most .i)then _ else none)=_;rw[hs];rfl
   |false=>rfl
theorem Zmp (l:Zv) (h:Qc l) (ht:l.ppu.T<20000):r346 (l.t,())=some (((YA l).t,()),()):=by
 obtain ⟨hf,hs⟩:=Zj4 h;have kp:=Zjk l.ppu h.ppu ht;have ka:=Zhu l.apu h.apu (by rw[h.t];exact ht);have eb:eqI (Int.tmod l.ppu.T 64) 48=JQ l.ppu:=by rw[Qx h.ppu.t.1];rfl
 unfold r346 m346;refine Za kp (Za ka ?_);clear kp ka h ht;unfold YA;obtain ⟨img,pads,mem,cpu,ppu,apu,pad,nmi,steps,frames,samples,reads⟩:=l;dsimp only at hf hs eb⊢;show (bif eqI (Int.tmod ppu.T 64) 48 then (bif leN (frames.length+1) (E.most .n)then (bif YK apu then (bif leN (samples.length+1) (E.most .i)then (bif nmi then _ else _)else none)else bif nmi then _ else _)else none)else bif YK apu then (bif leN (samples.length+1) (E.most .i)then (bif nmi then _ else _)else none)else bif nmi then _ else _)=_
 rw[eb,hf,hs];generalize JQ ppu=b;generalize YK apu=b2;cases b<;>cases b2<;>cases nmi<;>rfl
theorem ZaS: ∀(n:Nat) (l:Zv),(QK n l).img=l.img∧(QK n l).pads=l.pads∧(QK n l).mem=l.mem∧(QK n l).ppu.table=l.ppu.table∧(QK n l).reads=l.reads
 |0,l=>⟨rfl,rfl,rfl,rfl,rfl⟩
 |n+1,l=>by
  obtain ⟨a,b,c,d,e⟩:=ZaS n (YA l);exact ⟨a,b,c,d.trans (ZbT l.ppu),e⟩
theorem ZcO (c:Int) (hc:c≤7): ∀(d k:Nat) (i:Int) (l:Zv),0≤i→i+d=c→d<k→Qc l→l.ppu.T+d≤20000→
  n320_0 r337 r338 r339 r195 r191 k (c,()) (l.t,()) (i,())=some (Sum.inl (c,()),((QK d l).t,()))
 |_,0,_,_,_,_,h,_,_=>absurd h (by omega)
 |0,k+1,i,l,h0,hi,_,_,_=>by
  show (bif ltI i c then _ else some (Sum.inl (i,()),(l.t,())))=_
  rw[Zx (by omega),Zd,show i=c by omega];rfl
 |d+1,k+1,i,l,h0,hi,hk,h,ht=>by
  show (bif ltI i c then (r339 (l.t,())).bind _ else _)=_
  rw[Zl (by omega),Zb];refine Za (Zkt l h (by omega)) ?_;have e:wI (i+1)=i+1:=Zr (by omega) (by omega);have ih:=ZcO c hc d k (i+1) (YA l) (by omega) (by omega) (by omega) (ZkX h (by omega)) (by rw[ZiG];omega);rw[←e]at ih;show _=some (Sum.inl (c,()),((QK d (YA l)).t,()));generalize QK d (YA l)=z at ih⊢;have e1:(YA l).ppu.table=l.ppu.table:=ZbT _;have e2:(YA l).img=l.img:=rfl;have e3:(YA l).pads=l.pads:=rfl;have e4:(YA l).mem=l.mem:=rfl;have e5:(YA l).reads=l.reads:=rfl;generalize YA l=l' at ih e1 e2 e3 e4 e5⊢;obtain ⟨img,pads,mem,cpu,⟨pT,pc,ps,pa,pp,pb,ptb,pds⟩,apu,pad,nmi,st,fr,sm,rd⟩:=l';have e1:ptb=l.ppu.table:=e1;have e2:img=l.img:=e2;have e3:pads=l.pads:=e3;have e4:mem=l.mem:=e4;have e5:rd=l.reads:=e5;subst e1 e2 e3 e4 e5;exact ih
theorem Zds (c:Int) (hc:c≤7): ∀(d k:Nat) (i:Int) (l:Zv),0≤i→i+d=c→d<k→Qc l→l.ppu.T+d≤20000→
  n340_0 r345 r346 k (c,()) (l.t,()) (i,())=some (Sum.inl (c,()),((QK d l).t,()))
 |_,0,_,_,_,_,h,_,_=>absurd h (by omega)
 |0,k+1,i,l,h0,hi,_,_,_=>by
  show (bif ltI i c then _ else some (Sum.inl (i,()),(l.t,())))=_
  rw[Zx (by omega),Zd,show i=c by omega];rfl
 |d+1,k+1,i,l,h0,hi,hk,h,ht=>by
  show (bif ltI i c then (r346 (l.t,())).bind _ else _)=_
  rw[Zl (by omega),Zb];refine Za (Zmp l h (by omega)) ?_;have e:wI (i+1)=i+1:=Zr (by omega) (by omega);have ih:=Zds c hc d k (i+1) (YA l) (by omega) (by omega) (by omega) (ZkX h (by omega)) (by rw[ZiG];omega);rw[←e]at ih;exact ih
theorem Zf8 (m:Zv) (c:Int) (hc:2≤c∧c≤7) (h:Qc m) (ht:m.ppu.T+c≤20000):L320_0 (c,()) (m.t,()) (0,())=some (Sum.inl (c,()),((QK c.toNat m).t,())):=
 ZcO c hc.2 c.toNat fuel 0 m (by omega) (by omega) (by have:=ZZ;omega) h (by omega)
theorem Zpi (m:Zv) (c:Int) (hc:2≤c∧c≤7) (h:Qc m) (ht:m.ppu.T+c≤20000):L340_0 (c,()) (m.t,()) (0,())=some (Sum.inl (c,()),((QK c.toNat m).t,())):=
 Zds c hc.2 c.toNat fuel 0 m (by omega) (by omega) (by have:=ZZ;omega) h (by omega)
def Kr (l:Zv):Zv:=if Q1 l then Q3 l else l
theorem Zfd {m:Zv} {n:Nat} (h:Qc m) (ht:m.ppu.T+n≤20000):wI ((QK n m).steps+1)=(QK n m).steps+1:=by
 obtain ⟨a,b,c,d⟩:=ZiH h ht;have:=a.s0;have:=a.s1;exact Zr (by omega) (by omega)
theorem Zc8 {l:Zv} (hm:Q1 l=true) {m:Zv} (hd:doL l=m) {c:Int} (hc:QP l=c):Kr l={(QK c.toNat m)with steps:=(QK c.toNat m).steps+1}:=by
 unfold Kr;rw[Ze hm];unfold Q3;rw[hc,hd]
theorem Zks (l:Zv) (h:Qc l) (hr:l.reads.length≤4398046511000):r320 (l.t,())=some ((Q1 l,()),((Kr l).t,())):=by
 have kf:=Zct l.img l.mem l.cpu.pc h.mem h.cpu.pc;have kc:=Zaa (Qm l,());have hb:=Zfu l;have hT:=h.ppu.t;have hP:=Zqy h;have hdt:=Zqz l;have ho:=ZcB (Qm l);unfold r320 m320;show (bif l.nmi then _ else bif l.apu.irq then _ else _)=_
 cases hn:l.nmi with
 |true=>
  have hc:QP l=7:=by unfold QP KY;rw[hn];rfl
  have hd:doL l=JM {l with nmi:=false} 65530:=by unfold doL;rw[hn];rfl
  have ew:wI (l.ppu.T+7)=l.ppu.T+7:=Zr (by omega) (by omega);rw[Zb];refine Za kf (Za kc ?_);show (bif ltI 20000 (wI (l.ppu.T+7))then _ else bif l.nmi then _ else _)=_
  rw[ew,hn,Zb];by_cases hm:l.ppu.T+7≤20000
  ·have hmay:Q1 l=true:=ZB (by rw[hc];exact hm);rw[Zx (by omega),Zd];refine Za (ZeO {l with nmi:=false} 65530 ⟨h.mem,h.pads,h.cpu,h.ppu,h.apu,h.pad,h.t,h.s0,h.s1,h.fr,h.frn,h.sam⟩ (by omega)) ?_
   rw[hd]at hP;have hq:(JM {l with nmi:=false} 65530).ppu.T+7≤20000:=hm
   have kt:L320_0 (7,()) ((JM {l with nmi:=false} 65530).t,()) (0,())=some (Sum.inl (7,()),((QK 7 (JM {l with nmi:=false} 65530)).t,())):=Zf8 (JM {l with nmi:=false} 65530) 7 (by omega) hP hq
   refine Za kt ?_;clear kt;have hw:=Zfd (n:=7) hP hq;obtain ⟨r1,r2,r3,r4,r5⟩:=ZaS 7 (JM {l with nmi:=false} 65530)
   rw[hmay,Zc8 hmay hd hc];show _=some ((true,()),(Zv.t {(QK 7 (JM {l with nmi:=false} 65530))with steps:=(QK 7 (JM {l with nmi:=false} 65530)).steps+1},()))
   rw[←hw];generalize QK 7 (JM {l with nmi:=false} 65530)=q at r1 r2 r3 r4 r5⊢
   obtain ⟨img,pads,mem,cpu,⟨pT,pc,ps,pa,pp,pb,ptb,pds⟩,apu,pad,nmi,st,fr,sm,rd⟩:=q;have r1:img=l.img:=r1;have r2:pads=l.pads:=r2;have r3:mem=XY l.mem l.cpu:=r3;have r4:ptb=l.ppu.table:=r4;have r5:rd=l.reads:=r5;subst r1 r2 r3 r4 r5;rfl
  ·have hmay:Q1 l=false:=Zw (by rw[hc];exact hm);rw[Zl (by omega),Zb,hmay];unfold Kr;rw[hmay,Zc (by simp)]
 |false=>
  rw[Zd];by_cases hq:l.apu.irq=true∧l.cpu.i=false
  ·obtain ⟨hirq,hi⟩:=hq;have hc:QP l=7:=by unfold QP KY;rw[hn,hirq,hi];rfl
   have hd:doL l=JM l 65534:=by unfold doL;rw[hn,hirq,hi];rfl
   have ew:wI (l.ppu.T+7)=l.ppu.T+7:=Zr (by omega) (by omega);rw[hirq,Zb];refine Za kf (Za kc ?_);show (bif !l.cpu.i then (bif ltI 20000 (wI (l.ppu.T+7))then _ else bif l.nmi then _ else bif !l.cpu.i then _ else _)else _)=_
   rw[ew,hn,hi,QE,Zb,Zd,Zb];by_cases hm:l.ppu.T+7≤20000
   ·have hmay:Q1 l=true:=ZB (by rw[hc];exact hm);rw[Zx (by omega),Zd];refine Za (ZeO l 65534 h (by omega)) ?_;rw[hd]at hP;have hq:(JM l 65534).ppu.T+7≤20000:=hm;have kt:L320_0 (7,()) ((JM l 65534).t,()) (0,())=some (Sum.inl (7,()),((QK 7 (JM l 65534)).t,())):=Zf8 (JM l 65534) 7 (by omega) hP hq;refine Za kt ?_;clear kt;have hw:=Zfd (n:=7) hP hq;obtain ⟨r1,r2,r3,r4,r5⟩:=ZaS 7 (JM l 65534);rw[hmay,Zc8 hmay hd hc];show _=some ((true,()),(Zv.t {(QK 7 (JM l 65534))with steps:=(QK 7 (JM l 65534)).steps+1},()))
    rw[←hw];generalize QK 7 (JM l 65534)=q at r1 r2 r3 r4 r5⊢;obtain ⟨img,pads,mem,cpu,⟨pT,pc,ps,pa,pp,pb,ptb,pds⟩,apu,pad,nmi,st,fr,sm,rd⟩:=q;have r1:img=l.img:=r1;have r2:pads=l.pads:=r2;have r3:mem=XY l.mem l.cpu:=r3;have r4:ptb=l.ppu.table:=r4;have r5:rd=l.reads:=r5;subst r1 r2 r3 r4 r5;rfl
   ·have hmay:Q1 l=false:=Zw (by rw[hc];exact hm);rw[Zl (by omega),Zb,hmay];unfold Kr;rw[hmay,Zc (by simp)]
  ·have hask:KY l=false:=by
    unfold KY;rw[hn];cases h1:l.apu.irq with
    |false=>rfl
    |true=>
     cases h2:l.cpu.i with
     |true=>rfl
     |false=>exact absurd ⟨h1,h2⟩ hq
   have hc:QP l=Qs (Qm l):=by unfold QP;rw[hask];rfl
   have hd:doL l=opL l (Qm l) (Ys l):=by
    unfold doL;unfold KY at hask;rw[hn,Bool.false_or]at hask;rw[hn,hask];rfl
   have ew:wI (l.ppu.T+Qs (Qm l))=l.ppu.T+Qs (Qm l):=Zr (by omega) (by omega);have key: ∀(X:Option (PTup o320×BTup i320)),
     X=(bif ltI 20000 (wI (l.ppu.T+Qs (Qm l)))then (some ((false,()),(l.t,())))else (r338 (l.t,((Qm l,(Ys l,())),()))).bind fun r2=>(L320_0 (Qs (Qm l),()) (Zv.t {lkM r2.2.1 with img:=l.img,pads:=l.pads,frames:=l.frames,samples:=l.samples,ppu:={(lkM r2.2.1).ppu with dots:=l.ppu.dots}},()) (0,())).bind fun r3=>ZE r3.1 (fun r4=>some ((true,()),(Zv.t {lkM r3.2.1 with img:=l.img,pads:=l.pads,mem:=⟨(lkM r2.2.1).mem.ram,(lkM r3.2.1).mem.bank⟩,ppu:={(lkM r3.2.1).ppu with table:=(lkM r2.2.1).ppu.table},reads:=(lkM r2.2.1).reads,steps:=wI ((lkM r3.2.1).steps+1)},()))) (fun r4=>some ((false,()),(Zv.t {lkM r3.2.1 with img:=l.img,pads:=l.pads,mem:=⟨(lkM r2.2.1).mem.ram,(lkM r3.2.1).mem.bank⟩,ppu:={(lkM r3.2.1).ppu with table:=(lkM r2.2.1).ppu.table},reads:=(lkM r2.2.1).reads},()))))→
     X=some ((Q1 l,()),((Kr l).t,())):=by
    intro X hX;rw[hX,ew];by_cases hm:l.ppu.T+Qs (Qm l)≤20000
    ·have hmay:Q1 l=true:=ZB (by rw[hc];exact hm);rw[Zx (by omega),Zd];refine Za (ZnL l (Qm l) (Ys l) h hr (ZmZ h.mem _)) ?_;rw[hmay,Zc8 hmay hd hc];obtain ⟨q1,q2,q3,q4,q5⟩:=Zly l (Qm l) (Ys l);rw[hd]at hP hdt;generalize opL l (Qm l) (Ys l)=m at q1 q2 q3 q4 q5 hP hdt⊢;have hq:m.ppu.T+Qs (Qm l)≤20000:=by rw[hdt];exact hm
     have kt:=Zf8 m (Qs (Qm l)) (by omega) hP hq;have hw:=Zfd (n:=(Qs (Qm l)).toNat) hP (by omega);obtain ⟨r1,r2,r3,r4,r5⟩:=ZaS (Qs (Qm l)).toNat m;clear hP hdt hq;generalize QK (Qs (Qm l)).toNat m=q at kt hw r1 r2 r3 r4 r5⊢;obtain ⟨img,pads,mem,cpu,⟨pT,pc,ps,pa,pp,pb,ptb,pds⟩,apu,pad,nmi,st,fr,sm,rd⟩:=m;have q1:img=l.img:=q1;have q2:pads=l.pads:=q2;have q3:pds=l.ppu.dots:=q3;have q4:fr=l.frames:=q4;have q5:sm=l.samples:=q5;subst q1 q2 q3 q4 q5;refine Za kt ?_;obtain ⟨img,pads,mem',cpu',⟨pT',pc',ps',pa',pp',pb',ptb',pds'⟩,apu',pad',nmi',st',fr',sm',rd'⟩:=q;change img=l.img at r1;change pads=l.pads at r2;change mem'=mem at r3;change ptb'=ptb at r4;change rd'=rd at r5;subst r1 r2 r3 r4 r5;have hw:wI (st'+1)=st'+1:=hw;show _=some ((true,()),(Zv.t ⟨_,_,_,_,_,_,_,_,st'+1,_,_,_⟩,()));rw[←hw];rfl
    ·have hmay:Q1 l=false:=Zw (by rw[hc];exact hm);rw[Zl (by omega),Zb,hmay];unfold Kr;rw[hmay,Zc (by simp)]
   cases hirq:l.apu.irq with
   |true=>
    have hi:l.cpu.i=true:=by
     cases h2:l.cpu.i with
     |true=>rfl
     |false=>exact absurd ⟨hirq,h2⟩ hq
    rw[Zb];refine Za kf (Za kc ?_);show (bif !l.cpu.i then _ else bif ltI 20000 (wI (l.ppu.T+Qs (Qm l)))then _ else bif l.nmi then _ else bif !l.cpu.i then _ else _)=_
    rw[hn,hi,ZM,Zd,Zd,Zd];exact key _ rfl
   |false=>
    rw[Zd];refine Za kf (Za kc ?_);show (bif ltI 20000 (wI (l.ppu.T+Qs (Qm l)))then _ else bif l.nmi then _ else _)=_
    rw[hn,Zd];exact key _ rfl
def XC (l:Zv):Bool:=Y7 l.img l.mem.t&&(XH l.pads&&(Yq l.cpu.t&&(YV l.ppu.t&&(Xh l.apu.t&&(inR 0 255 l.pad.t.2.1&&(eqI l.apu.T l.ppu.T&&(inR 0 l.ppu.T l.steps&&(Kb l.frames l.ppu.T&&W6 l.samples l.ppu.T))))))))
theorem Zan {l:Zv}:XC l=true↔Qc l:=by
 unfold XC;simp only[Bool.and_eq_true];constructor
 ·rintro ⟨a,b,c,d,e,f,g,h,i,j⟩;have d:=WX.1 d;obtain ⟨i1,i2⟩:=(ZaU d.t.1).1 i;have h:=JE.1 h;exact ⟨UI.1 a,UN.1 b,Zdg.1 c,d,Wx.1 e,JE.1 f,Vs.1 g,h.1,h.2,i1,i2,(ZaD d.t.1).1 j⟩
 ·rintro ⟨a,b,c,d,e,f,g,h0,h1,i1,i2,j⟩;exact ⟨UI.2 a,UN.2 b,Zdg.2 c,WX.2 d,Wx.2 e,JE.2 f,Vs.2 g,JE.2 ⟨h0,h1⟩,(ZaU d.t.1).2 ⟨i1,i2⟩,(ZaD d.t.1).2 j⟩
theorem Zdn (l:Zv) (hs:YT l.t):r318 (l.t,())=some ((XC l,()),()):=by
 obtain ⟨h1,h2,h3,h4,⟨h5,_,_⟩,h6,h7⟩:=hs;have h2:l.pads.length≤4398046511104:=h2;unfold r318 m318 XC;refine Za (ZaX l.img l.mem.t h1 h3) ?_;show (bif Y7 l.img l.mem.t then _ else _)=_
 cases Y7 l.img l.mem.t with
 |false=>rfl
 |true=>
 rw[Zb,Bool.true_and];refine Za (Zby l.pads (by omega)) ?_;show (bif XH l.pads then _ else _)=_
 cases XH l.pads with
 |false=>rfl
 |true=>
 rw[Zb,Bool.true_and];refine Za (Zb3 l.cpu.t) ?_;show (bif Yq l.cpu.t then _ else _)=_
 cases Yq l.cpu.t with
 |false=>rfl
 |true=>
 rw[Zb,Bool.true_and];refine Za (ZeK l.ppu.t h4) ?_;show (bif YV l.ppu.t then _ else _)=_
 cases e:YV l.ppu.t with
 |false=>rfl
 |true=>
 have hT:=(WX.1 e).t;rw[Zb,Bool.true_and];refine Za (ZaW l.apu.t) ?_;show (bif Xh l.apu.t then _ else _)=_
 cases Xh l.apu.t with
 |false=>rfl
 |true=>
 rw[Zb,Bool.true_and];refine Za (WK (l.pad.t.2.1,())) ?_;show (bif inR 0 255 l.pad.t.2.1 then _ else _)=_
 cases inR 0 255 l.pad.t.2.1 with
 |false=>rfl
 |true=>
 rw[Zb,Bool.true_and];show (bif eqI l.apu.T l.ppu.T then _ else _)=_
 cases eqI l.apu.T l.ppu.T with
 |false=>rfl
 |true=>
 rw[Zb,Bool.true_and];refine Za (XQ (l.steps,(0,(l.ppu.T,())))) ?_;show (bif inR 0 l.ppu.T l.steps then _ else _)=_
 cases inR 0 l.ppu.T l.steps with
 |false=>rfl
 |true=>
 rw[Zb,Bool.true_and];refine Za (Zb4 l.frames l.ppu.T h5 hT.1 hT.2) ?_;show (bif Kb l.frames l.ppu.T then _ else _)=_
 cases Kb l.frames l.ppu.T with
 |false=>rfl
 |true=>
 rw[Zb,Bool.true_and];exact Za (ZbV l.samples l.ppu.T hT.1 hT.2) rfl
theorem ZbN (l:Zv) (hs:YT l.t):r323 (l.t,())=some ((XC l,()),()):=by
 obtain ⟨h1,h2,h3,h4,⟨h5,_,_⟩,h6,h7⟩:=hs;have h2:l.pads.length≤4398046511104:=h2;unfold r323 m323 XC;rw[Bool.and_left_comm (Y7 l.img l.mem.t)];refine Za (ZbO l.pads (by omega)) ?_;show (bif XH l.pads then _ else _)=_
 cases XH l.pads with
 |false=>rfl
 |true=>
 rw[Zb,Bool.true_and];refine Za (Za6 l.img l.mem.t h1 h3) ?_;show (bif Y7 l.img l.mem.t then _ else _)=_
 cases Y7 l.img l.mem.t with
 |false=>rfl
 |true=>
 rw[Zb,Bool.true_and];refine Za (Zcf l.cpu.t) ?_;show (bif Yq l.cpu.t then _ else _)=_
 cases Yq l.cpu.t with
 |false=>rfl
 |true=>
 rw[Zb,Bool.true_and];refine Za (Za8 l.ppu.t h4) ?_;show (bif YV l.ppu.t then _ else _)=_
 cases e:YV l.ppu.t with
 |false=>rfl
 |true=>
 have hT:=(WX.1 e).t;rw[Zb,Bool.true_and];refine Za (Za5 l.apu.t) ?_;show (bif Xh l.apu.t then _ else _)=_
 cases Xh l.apu.t with
 |false=>rfl
 |true=>
 rw[Zb,Bool.true_and];refine Za (Vv (l.pad.t.2.1,())) ?_;show (bif inR 0 255 l.pad.t.2.1 then _ else _)=_
 cases inR 0 255 l.pad.t.2.1 with
 |false=>rfl
 |true=>
 rw[Zb,Bool.true_and];show (bif eqI l.ppu.T l.apu.T then _ else _)=_
 rw[show eqI l.ppu.T l.apu.T=eqI l.apu.T l.ppu.T by by_cases e:l.ppu.T=l.apu.T;rw[Zn e,Zn e.symm];rw[Zi e,Zi (Ne.symm e)]];cases eqI l.apu.T l.ppu.T with
 |false=>rfl
 |true=>
 rw[Zb,Bool.true_and];refine Za (JV (l.steps,(0,(l.ppu.T,())))) ?_;show (bif inR 0 l.ppu.T l.steps then _ else _)=_
 cases inR 0 l.ppu.T l.steps with
 |false=>rfl
 |true=>
 rw[Zb,Bool.true_and];refine Za (Zcg l.frames l.ppu.T h5 hT.1 hT.2) ?_;show (bif Kb l.frames l.ppu.T then _ else _)=_
 cases Kb l.frames l.ppu.T with
 |false=>rfl
 |true=>
 rw[Zb,Bool.true_and];show some ((eqI (l.samples.length:Int) (wI (Int.tdiv l.ppu.T 16)),()),())=_;unfold W6;rw[Zr (by rw[Ua hT.1];omega) (by rw[Ua hT.1];omega)]
theorem Zl8 (l:Zv) (hs:YT l.t):r319 (l.t,())=some ((l.t,()),()):=by
 obtain ⟨h1,h2,h3,h4,h5,h6,h7⟩:=hs;unfold r319 m319;exact Za (ZaT l.img h1) (Za (Xl l.pads h2) (Za (Zhf l.mem.t h3) (Za (Zhg l.ppu.t h4) (Za (Zbw l.frames h5) (Za (Xl l.samples h6) (Za (Xl l.reads h7) rfl))))))
theorem ZfZ (l:Zv) (hs:YT l.t):r324 (l.t,())=some ((l.t,()),()):=by
 obtain ⟨h1,h2,h3,h4,h5,h6,h7⟩:=hs;have h2:l.pads.length≤4398046511104:=h2;have h6:l.samples.length≤4398046511104:=h6;have h7:l.reads.length≤4398046511104:=h7;unfold r324 m324;refine Za (Zam l.img h1) ?_;show (bif leN (0+l.pads.length) (E.most .i)then _ else none)=_
 rw[ZI (show 0+l.pads.length≤E.most .i by simp only[E.most];omega),Zb];refine Za (Zdv l.mem.t h3) (Za (UF l.ppu.t h4) (Za (Zcw l.frames h5) ?_));show (bif leN (0+l.samples.length) (E.most .i)then (bif leN (0+l.reads.length) (E.most .i)then _ else none)else none)=_
 rw[ZI (show 0+l.samples.length≤E.most .i by simp only[E.most];omega),Zb,ZI (show 0+l.reads.length≤E.most .i by simp only[E.most];omega),Zb];rfl
theorem Zph (l:Zv) (h:Qc l) (hr:l.reads.length≤4398046511000):r345 (l.t,())=some (((doL l).t,(QP l,())),()):=by
 have kf:=Zax l.img l.mem l.cpu.pc h.mem h.cpu.pc;have kc:=Zab (Qm l,());have ka:=Zaj (Qm l) (Ys l) l.cpu h.cpu (ZmZ h.mem _);unfold r345 m345;show (bif l.nmi then _ else bif l.apu.irq then (bif !l.cpu.i then _ else _)else _)=_
 cases hn:l.nmi with
 |true=>
  have hc:QP l=7:=by unfold QP KY;rw[hn];rfl
  have hd:doL l=JM {l with nmi:=false} 65530:=by unfold doL;rw[hn];rfl
  rw[Zb,hc,hd];exact Za (Zaw l.img l.mem l.cpu 65530 h.mem h.cpu (by omega)) rfl
 |false=>
  rw[Zd];by_cases hq:l.apu.irq=true∧l.cpu.i=false
  ·obtain ⟨hirq,hi⟩:=hq;have hc:QP l=7:=by unfold QP KY;rw[hn,hirq,hi];rfl
   have hd:doL l=JM l 65534:=by unfold doL;rw[hn,hirq,hi];rfl
   rw[hirq,Zb,hi,QE,Zb,hc,hd];exact Za (Zaw l.img l.mem l.cpu 65534 h.mem h.cpu (by omega)) rfl
  ·have hask:KY l=false:=by
    unfold KY;rw[hn];cases h1:l.apu.irq with
    |false=>rfl
    |true=>
     cases h2:l.cpu.i with
     |true=>rfl
     |false=>exact absurd ⟨h1,h2⟩ hq
   have hc:QP l=Qs (Qm l):=by unfold QP;rw[hask];rfl
   have hd:doL l=opL l (Qm l) (Ys l):=by
    unfold doL;unfold KY at hask;rw[hn,Bool.false_or]at hask;rw[hn,hask];rfl
   rw[hc,hd];have e:(bif l.apu.irq then (bif !l.cpu.i then (0:Nat)else 1)else 1)=1:=by
    cases h1:l.apu.irq with
    |false=>rfl
    |true=>
     cases h2:l.cpu.i with
     |true=>rfl
     |false=>exact absurd ⟨h1,h2⟩ hq
   have pick: ∀{A:Type} (x y:A),(bif l.apu.irq then (bif !l.cpu.i then x else y)else y)=y:=by
    intro A x y;cases h1:l.apu.irq with
    |false=>rfl
    |true=>
     cases h2:l.cpu.i with
     |true=>rfl
     |false=>exact absurd ⟨h1,h2⟩ hq
   refine (pick _ _).trans ?_;refine Za kf (Za ka ?_);unfold opL;show (bif eqI (ZT (Qm l)) 1 then _ else bif eqI (ZT (Qm l)) 2 then _ else _)=_
   by_cases o1:ZT (Qm l)=1
   ·rw[Zn o1,Ze o1,Zb];refine Za (Zmn l (QZ (Qm l) (Ys l) l.cpu.x) h hr) ?_;have hv:=ZlH h (QZ (Qm l) (Ys l) l.cpu.x);have hp:=Zoc h (QZ (Qm l) (Ys l) l.cpu.x);generalize VH l (QZ (Qm l) (Ys l) l.cpu.x)=v at hv⊢;generalize JH l (QZ (Qm l) (Ys l) l.cpu.x)=l' at hp⊢;exact Za (Zao l'.mem l'.cpu (Qm l) (Ys l) v hp.mem.ram hp.cpu) (Za kc rfl)
   rw[Zi o1,Zc o1,Zd];by_cases o2:ZT (Qm l)=2
   ·rw[Zn o2,Ze o2,Zb];have ev:Y1 (Qm l) l.cpu.a=l.cpu.a%256:=by unfold Y1;rw[Ze o2]
    have kw:=Zkm l (QZ (Qm l) (Ys l) l.cpu.x) (l.cpu.a%256) h (mod256 _);rw[←ev]at kw;refine Za kw ?_;rw[ev];have hp:=ZiJ h (QZ (Qm l) (Ys l) l.cpu.x) (l.cpu.a%256);generalize JI l (QZ (Qm l) (Ys l) l.cpu.x) (l.cpu.a%256)=l' at hp⊢;exact Za (Zao l'.mem l'.cpu (Qm l) (Ys l) 0 hp.mem.ram hp.cpu) (Za kc rfl)
   ·rw[Zi o2,Zc o2,Zd];exact Za (Zao l.mem l.cpu (Qm l) (Ys l) 0 h.mem.ram h.cpu) (Za kc rfl)
theorem Zmo (l:Zv) (h:Qc l) (hr:l.reads.length≤4398046511000):r340 (l.t,())=some ((if Q1 l then (Q3 l).t else Zmx,(Q1 l,())),()):=by
 have hb:=Zfu l;have hT:=h.ppu.t;have hP:=Zqy h;have hdt:=Zqz l;unfold r340 m340;refine Za (Zph l h hr) ?_;show (bif ltI 20000 (wI ((doL l).ppu.T+QP l))then _ else _)=_
 rw[hdt,Zr (by omega) (by omega)];by_cases hm:l.ppu.T+QP l≤20000
 ·have hmay:Q1 l=true:=ZB hm;rw[Zx (by omega),Zd,hmay,Ze rfl];have hq:(doL l).ppu.T+QP l≤20000:=by rw[hdt];exact hm
  refine Za (Zpi (doL l) (QP l) hb hP hq) ?_;have hw:=Zfd (n:=(QP l).toNat) hP (by omega);show _=some ((Zv.t {(QK (QP l).toNat (doL l))with steps:=(QK (QP l).toNat (doL l)).steps+1},(true,())),())
  rw[←hw];rfl
 ·have hmay:Q1 l=false:=Zw hm;rw[Zl (by omega),Zb,hmay];rfl
theorem Zbm {l:Zv} (h:Qc l) (hr:l.reads.length≤4398046511000):YT l.t:=h.s (by omega)
theorem ZgA (l:Zv) (h:Qc l) (hr:l.reads.length≤4398046511000):r325 (l.t,())=some (((Kr l).t,(Q1 l,())),()):=by
 have hs:=Zbm h hr;unfold r325 m325 Kr;refine Za (ZbN l hs) ?_;show (bif !XC l then _ else _)=_
 rw[Zan.2 h,ZM,Zd];refine Za (ZfZ l hs) (Za (Zmo l h hr) ?_);show (bif Q1 l then _ else _)=_
 cases hm:Q1 l with
 |true=>rfl
 |false=>
  rw[Zd];exact Za (ZfZ l hs) rfl
theorem Znm (l:Zv):(doL l).img=l.img∧(doL l).pads=l.pads:=by
 unfold doL;split
 ·exact ⟨rfl,rfl⟩
 split
 ·exact ⟨rfl,rfl⟩
 ·obtain ⟨a,b,_⟩:=Zly l (Qm l) (Ys l);exact ⟨a,b⟩
theorem ZgG (l:Zv):(Q3 l).img=l.img∧(Q3 l).pads=l.pads:=by
 obtain ⟨a,b,_⟩:=ZaS (QP l).toNat (doL l);exact ⟨a.trans (Znm l).1,b.trans (Znm l).2⟩
theorem ZlK: ∀(n:Nat) (l:Zv),(QL n l).1.img=l.img∧(QL n l).1.pads=l.pads
 |0,l=>⟨rfl,rfl⟩
 |n+1,l=>by
  unfold QL;split
  ·obtain ⟨a,b⟩:=ZlK n (Q3 l);exact ⟨a.trans (ZgG l).1,b.trans (ZgG l).2⟩
  ·exact ⟨rfl,rfl⟩
theorem Zqb {j:Nat} {l:Zv} (h:Q1 l=false):QL (j+1) l=(l,0):=by
 show (if Q1 l then _ else _)=_
 rw[h,Zc (by simp)]
theorem Zqc {j:Nat} {l:Zv} (h:Q1 l=true):QL (j+1) l=((QL j (Q3 l)).1,(QL j (Q3 l)).2+1):=by
 show (if Q1 l then _ else _)=_
 rw[h,Ze rfl]
theorem ZmQ {l:Zv} (h:Q1 l=false):Kr l=l:=by unfold Kr;rw[h,Zc (by simp)]
theorem ZhR {l:Zv} (h:Q1 l=true):Kr l=Q3 l:=by unfold Kr;rw[h,Ze rfl]
theorem ZbU (n:Int): ∀(k i j:Nat) (l:Zv),Qc l→l.reads.length+j≤4398046511000→j<k→Qy n=i+j→
  n272_0 r320 r318 r319 k (n,()) (l.t,()) ((i:Int),())=some (Sum.inl (((i+(QL j l).2:Nat):Int),()),((QL j l).1.t,()))
 |0,_,_,_,_,_,h,_=>absurd h (by omega)
 |k+1,i,j,l,h,hr,hk,hm=>by
  have hb:=Va n;show (bif ltI (i:Int) (mnI n 3000)then (r320 (l.t,())).bind _ else some (Sum.inl ((i:Int),()),(l.t,())))=_
  cases j with
  |zero=>
   rw[Vx,Zx (by unfold Qy at hm;omega),Zd];rfl
  |succ j=>
   rw[Vx,Zl (by unfold Qy at hm;omega),Zb];refine Za (Zks l h (by omega)) ?_;show (bif !Q1 l then _ else _)=_
   cases hst:Q1 l with
   |false=>
    rw[Zqb hst,ZmQ hst,QE,Zb];rfl
   |true=>
    rw[Zqc hst,ZhR hst,ZM,Zd];obtain ⟨a,_,_,d⟩:=ZkS h hst;have ih:=ZbU n k (i+1) j (Q3 l) a (by omega) (by omega) (by omega);have ew:wI ((i:Int)+1)=((i+1:Nat):Int):=by rw[Zr (by omega) (by omega)];omega
    rw[show i+1+(QL j (Q3 l)).2=i+((QL j (Q3 l)).2+1) by omega,←ew]at ih;obtain ⟨g1,g2⟩:=ZgG l;show _=some (Sum.inl (((i+((QL j (Q3 l)).2+1):Nat):Int),()),((QL j (Q3 l)).1.t,()));generalize QL j (Q3 l)=z at ih⊢;generalize Q3 l=l' at ih g1 g2⊢;obtain ⟨img,pads,mem,cpu,ppu,apu,pad,nmi,st,fr,sm,rd⟩:=l';have g1:img=l.img:=g1;have g2:pads=l.pads:=g2;subst g1 g2;exact ih
theorem ZbX (n:Int) (z:Tup Xr): ∀(k i j:Nat) (l:Zv),Qc l→l.reads.length+j≤4398046511000→j<k→Qy n=i+j→
  n276_0 r323 r325 r324 r104 k (n,()) (z,(l.t,())) ((i:Int),())=some (Sum.inl (((i+(QL j l).2:Nat):Int),()),(z,((QL j l).1.t,())))∨
  (∃y,n276_0 r323 r325 r324 r104 k (n,()) (z,(l.t,())) ((i:Int),())=some (Sum.inr (((i+(QL j l).2:Nat):Int),()),((QL j l).1.t,(y,()))))
 |0,_,_,_,_,_,h,_=>absurd h (by omega)
 |k+1,i,j,l,h,hr,hk,hm=>by
  have hb:=Va n;have e0: ∃D:Tup Xr,n276_0 r323 r325 r324 r104 (k+1) (n,()) (z,(l.t,())) ((i:Int),())=bif ltI (i:Int) (mnI n 3000)then (r325 (l.t,())).bind (fun r1=>
    bif (!r1.1.2.1)then (some ((Sum.inr ((i:Int),())),(l.t,(D,()))))else n276_0 r323 r325 r324 r104 k (n,()) (z,(r1.1.1,())) ((wI ((i:Int)+(1:Int))),()))else some (Sum.inl ((i:Int),()),(z,(l.t,()))):=
   ⟨_,Za (Zei n) rfl⟩
  obtain ⟨D,e0⟩:=e0;rw[e0];cases j with
  |zero=>
   rw[Vx,Zx (by unfold Qy at hm;omega),Zd];exact .inl rfl
  |succ j=>
   rw[Vx,Zl (by unfold Qy at hm;omega),Zb,ZgA l h (by omega),Zo];show (bif !Q1 l then _ else _)=_∨ ∃y,(bif !Q1 l then _ else _)=_
   cases hst:Q1 l with
   |false=>
    rw[Zqb hst,QE,Zb];exact .inr ⟨D,rfl⟩
   |true=>
    rw[Zqc hst,ZhR hst,ZM,Zd];obtain ⟨a,_,_,d⟩:=ZkS h hst;have ih:=ZbX n z k (i+1) j (Q3 l) a (by omega) (by omega) (by omega);have ew:wI ((i:Int)+1)=((i+1:Nat):Int):=by rw[Zr (by omega) (by omega)];omega
    rw[show i+1+(QL j (Q3 l)).2=i+((QL j (Q3 l)).2+1) by omega,←ew]at ih;exact ih
def V9 (l:Zv) (n:Int):Tup Xr×Int:=if XC l then ((QL (Qy n) l).1.t,((QL (Qy n) l).2:Int))else (Zmx,0)
theorem Zij (l:Zv) (n:Int) (hs:YT l.t) (hr:l.reads.length≤1048576):r272 (l.t,(n,()))=some (((V9 l n).1,((V9 l n).2,())),()):=by
 have hb:=Va n;unfold r272 m272 V9;refine Za (Zdn l hs) ?_;show (bif !XC l then _ else _)=_
 cases ho:XC l with
 |false=>rfl
 |true=>
  have h:=Zan.1 ho;rw[ZM,Zd,Ze rfl];refine Za (Zl8 l hs) ?_;have k:=ZbU n fuel 0 (Qy n) l h (by omega) (by have:=ZZ;omega) (by omega);simp only[Int.natCast_zero,Nat.zero_add]at k;refine Za k ?_;obtain ⟨g1,g2⟩:=ZlK (Qy n) l;generalize QL (Qy n) l=d at g1 g2⊢;obtain ⟨⟨img,pads,mem,cpu,ppu,apu,pad,nmi,st,fr,sm,rd⟩,m⟩:=d;have g1:img=l.img:=g1;have g2:pads=l.pads:=g2;subst g1 g2;rfl
theorem ZiB (l:Zv) (n:Int) (hs:YT l.t) (hr:l.reads.length≤1048576):r276 (l.t,(n,()))=some (((V9 l n).1,((V9 l n).2,())),()):=by
 have hb:=Va n;unfold r276 m276 V9;refine Za (ZbN l hs) ?_;show (bif !XC l then _ else _)=_
 cases ho:XC l with
 |false=>rfl
 |true=>
  have h:=Zan.1 ho;rw[ZM,Zd,Ze rfl];refine Za (ZfZ l hs) ?_;have k:=ZbX n Zmx fuel 0 (Qy n) l h (by omega) (by have:=ZZ;omega) (by omega);simp only[Int.natCast_zero,Nat.zero_add]at k;rcases k with k| ⟨y,k⟩
  ·exact Za k rfl
  ·exact Za k rfl
theorem Zlo:YT Zmx:=⟨⟨by decide,(fun l hl=>by cases hl),by decide⟩,by decide,by decide,⟨by decide,by decide⟩,⟨by decide,(fun l hl=>by cases hl),by decide⟩,by decide,by decide⟩
theorem Zmy {l:Zv} (hr:l.reads.length≤1048576) (n:Int):YT (V9 l n).1:=by
 unfold V9;split
 ·rename_i ho;obtain ⟨a,b,c,d⟩:=Zqa (n:=Qy n) (Zan.1 ho);have:=Va n;exact a.s (by omega)
 ·exact Zlo
def Jb:ZF:=⟨List.replicate 512 0,0⟩
def WR (f:List (List Int)):Zq:=⟨0,0,255,Vh f Jb 65532,false,false,false,true⟩
def Y8 (f:List (List Int)) (p:List Int):Zv:=⟨f,p,Jb,WR f,⟨0,0,0,0,0,false,List.replicate 16 0,[]⟩,⟨0,0,0,0,0,false,false⟩,⟨false,0⟩,false,0,[],[],[]⟩
theorem Ze6 {f:List (List Int)} (h:Yn f):Jz f Jb:=
 ⟨h,⟨by show (List.replicate 512 (0:Int)).length=512;exact List.length_replicate,fun n hn=>by have:=List.eq_of_mem_replicate hn;omega⟩,by show (0:Int)≤0;decide,by have:=h.lo;show (0:Int)< (f.length:Int);omega⟩
theorem Zlv:JJ ⟨0,0,0,0,0,false,List.replicate 16 0,[]⟩:=
 ⟨by decide,by decide,by decide,by decide,by decide,by decide,fun n hn=>by have:=List.eq_of_mem_replicate hn;omega,by decide,fun n hn=>by cases hn⟩
theorem Zls:Yl ⟨0,0,0,0,0,false,false⟩:=⟨by decide,by decide,by decide,by decide,by decide⟩
theorem Zlt (f:List (List Int)):ZO (WR f):=
 ⟨by show (0:Int)≤0∧(0:Int)≤255;decide,by show (0:Int)≤0∧(0:Int)≤255;decide,by show (0:Int)≤255∧(255:Int)≤255;decide,ZoP _ _ _⟩
theorem Zlu {f:List (List Int)} {p:List Int} (h:Yn f) (hp:YN p):Qc (Y8 f p):=
 ⟨Ze6 h,hp,Zlt f,Zlv,Zls,by show (0:Int)≤0∧(0:Int)≤255;decide,rfl,by show (0:Int)≤0;decide,by show (0:Int)≤0;decide,(fun l hl=>by cases hl),
  by show ((0:Nat):Int)=YF 0;decide,by show ((0:Nat):Int)=0/16;decide⟩
theorem Zdl (f:List (List Int)) (h:Yn f):r54 ((f,()),())=some (((WR f).t,()),()):=by
 have hm:=Ze6 h;have k1:=ZfS f Jb 65532 hm;have k2:=ZfS f Jb 65533 hm;unfold r54 m54;refine Za (y:=((Jb.t,()),())) rfl ?_;have kv:r111 ((f,()),(Jb.t,((65532:Int),())))=some ((Vh f Jb 65532,()),()):=by
  unfold r111 m111;exact Za k1 (Za k2 (Za (Zal (ZR f Jb 65532,(ZR f Jb 65533,()))) rfl))
 exact Za kv rfl
theorem ZdO (f:List (List Int)) (h:Yn f):r83 ((f,()),())=some (((WR f).t,()),()):=by
 have hm:=Ze6 h;have k1:=Zap f Jb 65532 hm;have k2:=Zap f Jb 65533 hm;unfold r83 m83;refine Za (y:=((Jb.t,()),())) rfl ?_;exact Za k1 (Za k2 (Za (ZaR (ZR f Jb 65532,(ZR f Jb 65533,()))) rfl))
theorem ZgX (f:List (List Int)) (p:List Int) (h:Yn f) (hp:YN p):r271 ((f,()),(p,()))=some (((Y8 f p).t,(true,())),()):=by
 have hP:=Zlu h hp;have hs:=Zbm hP (by show 0≤_;omega);have hl:=hp.len;unfold r271 m271;refine Za (ZaT f h.small) (Za (Xl p (by omega)) (Za (y:=((Jb.t,()),())) rfl (Za (Zdl f h) (Za (y:=(((Y8 f p).ppu.t,()),())) rfl (Za (Zdn (Y8 f p) hs) ?_)))));show (bif !XC (Y8 f p)then _ else _)=_
 rw[Zan.2 hP,ZM,Zd];rfl
theorem Zg7 (f:List (List Int)) (p:List Int) (h:Yn f) (hp:YN p):r275 ((f,()),(p,()))=some (((Y8 f p).t,(true,())),()):=by
 have hP:=Zlu h hp;have hs:=Zbm hP (by show 0≤_;omega);have hl:=hp.len;unfold r275 m275;refine Za (Zam f h.small) ?_;show (bif leN (0+p.length) (E.most .i)then _ else none)=_
 rw[ZI (show 0+p.length≤E.most .i by simp only[E.most];omega),Zb];refine Za (y:=((Jb.t,()),())) rfl (Za (ZdO f h) (Za (y:=(((Y8 f p).ppu.t,()),())) rfl (Za (ZbN (Y8 f p) hs) ?_)));show (bif !XC (Y8 f p)then _ else _)=_
 rw[Zan.2 hP,ZM,Zd];rfl
def Jh (s:Zh):Bool:=Qb s.t&&leI s.steps 3000
def Xw (s:Zh):Tup Xr:=if Jh s then (V9 (Y8 s.img s.pads) s.steps).1 else Zmx
theorem Zre (s:Zh):YT (Xw s):=by
 unfold Xw;split
 ·exact Zmy (by show 0≤_;omega) _
 ·exact Zlo
theorem ZbE (s:Zh) (hs:ZU s.t):r207 (s.t,())=some ((Jh s,()),()):=by
 unfold r207 m207 Jh;refine Za (Vt s.t hs) ?_;show (bif Qb s.t then _ else _)=_
 cases Qb s.t<;>rfl
theorem Zf3 (s:Zh) (hs:ZU s.t):r223 (s.t,())=some ((Jh s,()),()):=by
 unfold r223 m223 Jh;refine Za (Vf s.t hs) ?_;show (bif Qb s.t then _ else _)=_
 cases Qb s.t<;>rfl
theorem Zc0 (s:Zh) (hs:ZU s.t):r208 (s.t,())=some ((Xw s,()),()):=by
 unfold r208 m208 Xw;refine Za (ZbE s hs) ?_;show (bif !Jh s then _ else _)=_
 cases hf:Jh s with
 |false=>rfl
 |true=>
  have hf2:=hf;unfold Jh at hf2;rw[Bool.and_eq_true]at hf2;have h:=JX.1 hf2.1;have hP:=Zlu h.mem.img h.pads;have hz:YT (Y8 s.img s.pads).t:=Zbm hP (by show 0≤_;omega);rw[ZM,Zd,Ze rfl];exact Za (ZgX s.img s.pads h.mem.img h.pads) (Za (Zij (Y8 s.img s.pads) s.steps hz (by show 0≤_;omega)) rfl)
theorem Zc6 (s:Zh) (hs:ZU s.t):r224 (s.t,())=some ((Xw s,()),()):=by
 unfold r224 m224 Xw;refine Za (Vf s.t hs) ?_;show (bif !Qb s.t then _ else bif ltI 3000 s.steps then _ else _)=_
 have e:ltI 3000 s.steps= !leI s.steps 3000:=Zku _ _;rw[e];cases ho:Qb s.t with
 |false=>
  have hf:Jh s=false:=by unfold Jh;rw[ho];rfl
  rw[hf];rfl
 |true=>
  cases hl:leI s.steps 3000 with
  |false=>
   have hf:Jh s=false:=by unfold Jh;rw[ho,hl];rfl
   rw[hf];rfl
  |true=>
   have hf:Jh s=true:=by unfold Jh;rw[ho,hl];rfl
   have h:=JX.1 ho;have hP:=Zlu h.mem.img h.pads;have hz:YT (Y8 s.img s.pads).t:=Zbm hP (by show 0≤_;omega);rw[hf,ZM,Zd,Zd,Ze rfl];exact Za (Zg7 s.img s.pads h.mem.img h.pads) (Za (ZiB (Y8 s.img s.pads) s.steps hz (by show 0≤_;omega)) rfl)
def Wj (s:Zh):Bool:=Jh s&&Kj (UK s.t) (J1 (Xw s))
theorem Zjt {s:Zh} (hs:ZU s.t):UL (UK s.t):=by
 obtain ⟨h1,h2,h3,h4,h5,h6⟩:=hs;exact ⟨h5.2.2,h6.2,h4⟩
theorem ZeV (s:Zh) (hs:ZU s.t):r138 (s.t,())=some ((Wj s,()),()):=by
 unfold r138 m138 Wj;refine Za (ZbE s hs) ?_;show (bif Jh s then _ else _)=_
 cases Jh s with
 |false=>rfl
 |true=>exact Za (ZeH s.t hs) (Za (Zc0 s hs) (Za (Zii (UK s.t) (J1 (Xw s)) (Zjt hs)) rfl))
theorem ZeZ (s:Zh) (hs:ZU s.t):r163 (s.t,())=some ((Wj s,()),()):=by
 unfold r163 m163 Wj;refine Za (Zf3 s hs) ?_;show (bif Jh s then _ else _)=_
 cases Jh s with
 |false=>rfl
 |true=>exact Za (ZeQ s.t hs) (Za (Zc6 s hs) (Za (ZbL (UK s.t) (J1 (Xw s)) (Zjt hs)) rfl))
theorem ZeD {s:Tup QM} (h:ZU s):YT (VZ s):=by
 obtain ⟨h1,h2,h3,h4,h5,h6⟩:=h;unfold VZ;split
 ·exact ⟨h1,h2,h3,h5.1,h5.2.2,h6.2,h4⟩
 ·exact ⟨⟨by decide,(fun l hl=>by cases hl),by decide⟩,by decide,by decide,⟨by decide,by decide⟩,⟨by decide,(fun l hl=>by cases hl),by decide⟩,by decide,by decide⟩
theorem Zgz (a b:Tup Xr) (h:YT a) (hb:YT b):r228 (a,(b,()))=some ((Zlp a b,()),()):=by
 unfold r228 m228;obtain ⟨_,_,h3,h4,h5⟩:=h;simp only[Zeq (JN a).1 (JN b).1 h3,ZmO (Y6 a) (Y6 b) h4,ZkQ (J1 a) (J1 b) h5 hb.2.2.2.2,Zo,Q7];show some ((decide ((JN a).1=(JN b).1)&&(eqI (JN a).2.1 (JN b).2.1&&(WB (KF a) (KF b)&&(Zn5 (Y6 a) (Y6 b)&&(Zqk (UG a) (UG b)&&(VC (XB a) (XB b)&&((a.2.2.2.2.2.2.2.2.2.2.2.2.2.2.2.2.2.2.2.2.2.2.2.2.2.2.2.2.2.1==b.2.2.2.2.2.2.2.2.2.2.2.2.2.2.2.2.2.2.2.2.2.2.2.2.2.2.2.2.2.1)&&
  (eqI a.2.2.2.2.2.2.2.2.2.2.2.2.2.2.2.2.2.2.2.2.2.2.2.2.2.2.2.2.2.2.1 b.2.2.2.2.2.2.2.2.2.2.2.2.2.2.2.2.2.2.2.2.2.2.2.2.2.2.2.2.2.2.1&&Wa (J1 a) (J1 b)))))))),()),())=_
 unfold Zlp UH;generalize decide ((JN a).1=(JN b).1)=x1;generalize eqI (JN a).2.1 (JN b).2.1=x2;generalize WB (KF a) (KF b)=x3;generalize Zn5 (Y6 a) (Y6 b)=x4;generalize Zqk (UG a) (UG b)=x5;generalize VC (XB a) (XB b)=x6;generalize Wa (J1 a) (J1 b)=x7;cases x1<;>cases x2<;>cases x3<;>cases x4<;>cases x5<;>cases x6<;>simp
def V8 (s:Zh):Bool:=Jh s&&Zlp (VZ (Yx s).t) (Xw s)
theorem Zec (s:Zh) (hs:ZU s.t) (hr:ZN s):r139 (s.t,())=some ((V8 s,()),()):=by
 obtain ⟨ls,lr⟩:=Ze4 hs hr;unfold r139 m139 V8;refine Za (ZbE s hs) ?_;show (bif Jh s then _ else _)=_
 cases Jh s with
 |false=>rfl
 |true=>exact Za (ZcY s hs hr) (Za (Zih (Yx s).t ls) (Za (Zc0 s hs) (Za (ZfP (VZ (Yx s).t) (Xw s) (ZeD ls)) rfl)))
theorem Zeu (s:Zh) (hs:ZU s.t) (hr:ZN s):r164 (s.t,())=some ((V8 s,()),()):=by
 obtain ⟨ls,lr⟩:=Ze4 hs hr;unfold r164 m164 V8;refine Za (Zf3 s hs) ?_;show (bif Jh s then _ else _)=_
 cases Jh s with
 |false=>rfl
 |true=>exact Za (ZbM s hs hr) (Za (ZiA (Yx s).t ls) (Za (Zc6 s hs) (Za (Zgz (VZ (Yx s).t) (Xw s) (ZeD ls) (Zre s)) rfl)))
def Zsd (s:Zh) (g:Tup Xr):Bool:=WB s.cpu.t (KF g)&&(VC s.pad.t (XB g)&&((s.nmi==g.2.2.2.2.2.2.2.2.2.2.2.2.2.2.2.2.2.2.2.2.2.2.2.2.2.2.2.2.2.1)&&(eqI s.T (Y6 g).1&&(UH s.mem.t (JN g)&&decide (s.reads=(J1 g).2.2.1)))))
def V7 (s:Zh):Bool:=Jh s&&Zsd s (Xw s)
theorem ZfO (s:Zh) (hs:ZU s.t):r137 (s.t,())=some ((V7 s,()),()):=by
 have hm:s.mem.t.1.length≤4398046511104:=hs.2.2.1;have hrd:s.reads.length≤4398046511104:=hs.2.2.2.1;unfold r137 m137 V7;refine Za (ZbE s hs) ?_;show (bif !Jh s then _ else _)=_
 cases Jh s with
 |false=>rfl
 |true=>
 rw[ZM,Zd,Bool.true_and];refine Za (Zc0 s hs) ?_;generalize Xw s=g;have k1:=ZhC s.mem.t (JN g) hm;have k2:=Uy s.reads (J1 g).2.2.1 hrd;unfold Zsd;show (bif WB s.cpu.t (KF g)then (bif VC s.pad.t (XB g)then (bif s.nmi==g.2.2.2.2.2.2.2.2.2.2.2.2.2.2.2.2.2.2.2.2.2.2.2.2.2.2.2.2.2.1 then (bif eqI s.T (Y6 g).1 then _ else _)else _)else _)else _)=_
 cases WB s.cpu.t (KF g)with
 |false=>rfl
 |true=>
 cases VC s.pad.t (XB g)with
 |false=>rfl
 |true=>
 cases s.nmi==g.2.2.2.2.2.2.2.2.2.2.2.2.2.2.2.2.2.2.2.2.2.2.2.2.2.2.2.2.2.1 with
 |false=>rfl
 |true=>
 cases eqI s.T (Y6 g).1 with
 |false=>rfl
 |true=>
 rw[Zb,Zb,Zb,Zb,Bool.true_and,Bool.true_and,Bool.true_and,Bool.true_and];refine Za k1 ?_;show (bif UH s.mem.t (JN g)then _ else _)=_
 cases UH s.mem.t (JN g)with
 |false=>rfl
 |true=>exact Za k2 rfl
theorem Zgy (s:Zh) (hs:ZU s.t):r162 (s.t,())=some ((V7 s,()),()):=by
 have hm:s.mem.t.1.length≤4398046511104:=hs.2.2.1;have hrd:s.reads.length≤4398046511104:=hs.2.2.2.1;unfold r162 m162 V7;refine Za (Zf3 s hs) ?_;show (bif !Jh s then _ else _)=_
 cases Jh s with
 |false=>rfl
 |true=>
 rw[ZM,Zd,Bool.true_and];refine Za (Zc6 s hs) ?_;generalize Xw s=g;have k1:=Zeq s.mem.t.1 (JN g).1 hm;have k2:=Zeq s.reads (J1 g).2.2.1 hrd;unfold Zsd UH;show (bif WB s.cpu.t (KF g)then (bif eqI s.mem.t.2.1 (JN g).2.1 then _ else _)else _)=_
 cases WB s.cpu.t (KF g)with
 |false=>rfl
 |true=>
 cases eqI s.mem.t.2.1 (JN g).2.1 with
 |false=>
  show some ((false,()),())=some ((VC s.pad.t (XB g)&&(_&&(_&&false)),()),());rw[Bool.and_false,Bool.and_false,Bool.and_false]
 |true=>
 rw[Zb,Zb,Bool.true_and,Bool.true_and];refine Za k1 ?_;show (bif decide (s.mem.t.1=(JN g).1)then (bif VC s.pad.t (XB g)then (bif s.nmi==g.2.2.2.2.2.2.2.2.2.2.2.2.2.2.2.2.2.2.2.2.2.2.2.2.2.2.2.2.2.1 then _ else _)else _)else _)=_
 cases decide (s.mem.t.1=(JN g).1)with
 |false=>
  show some ((false,()),())=some ((VC s.pad.t (XB g)&&(_&&(_&&false)),()),());rw[Bool.and_false,Bool.and_false,Bool.and_false]
 |true=>
 cases VC s.pad.t (XB g)with
 |false=>rfl
 |true=>
 cases s.nmi==g.2.2.2.2.2.2.2.2.2.2.2.2.2.2.2.2.2.2.2.2.2.2.2.2.2.2.2.2.2.1 with
 |false=>rfl
 |true=>
 rw[Zb,Zb,Zb,Bool.true_and,Bool.true_and];refine Za k2 ?_;show (bif decide (s.reads=(J1 g).2.2.1)then (some ((eqI s.T (Y6 g).1,()),()))else some ((false,()),()))=_
 cases decide (s.reads=(J1 g).2.2.1)with
 |false=>
  show some ((false,()),())=some ((_&&false,()),());rw[Bool.and_false]
 |true=>
  show some ((_,()),())=some ((_&&true,()),());rw[Bool.and_true]
def WN (s:Zh):Bool:=V7 s&&(Wj s&&(V8 s&&ZiP s))
theorem ZfN (s:Zh) (hs:ZU s.t) (hr:ZN s):r78 (s.t,())=some ((WN s,()),()):=by
 unfold r78 m78 WN;refine Za (ZfO s hs) ?_;show (bif V7 s then _ else _)=_
 cases V7 s with
 |false=>rfl
 |true=>
 refine Za (ZeV s hs) ?_;show (bif Wj s then _ else _)=_
 cases Wj s with
 |false=>rfl
 |true=>
 refine Za (Zec s hs hr) ?_;show (bif V8 s then _ else _)=_
 cases V8 s with
 |false=>rfl
 |true=>exact Za (ZeU s hs hr) rfl
theorem Zgx (s:Zh) (hs:ZU s.t) (hr:ZN s):r97 (s.t,())=some ((WN s,()),()):=by
 unfold r97 m97 WN;refine Za (Zgy s hs) ?_;show (bif V7 s then _ else _)=_
 cases V7 s with
 |false=>rfl
 |true=>
 refine Za (ZeZ s hs) ?_;show (bif Wj s then _ else _)=_
 cases Wj s with
 |false=>rfl
 |true=>
 refine Za (Zeu s hs hr) ?_;show (bif V8 s then _ else _)=_
 cases V8 s with
 |false=>rfl
 |true=>exact Za (ZeY s hs hr) rfl

end Go.Proofs.YtcbdldlphpjmbaaGreatDoor.Plain
