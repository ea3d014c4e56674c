/- Plain laws of the printed functions: LockI, LockJ, LockK, LockL, TwinI. No condition beyond those that each lemma states. -/
import Derived.Test.YtcbdldlphpjmbaaGreatDoorPD
set_option linter.unusedVariables false
set_option linter.unusedSimpArgs false
namespace Go.Proofs.YtcbdldlphpjmbaaGreatDoor.Plain
open Go Go.Tev
theorem Zke (l:Zv) (a:Int) (h:Qa l) (hr:l.reads.length≤4398046511000):r343 (l.t,(a,()))=some ((VD l a,()),((JG l a).t,())):=by
 have hl:leN (l.reads.length+1) (E.most .i)=true:=ZP (by simp only[E.most];omega);unfold r343 m343 JG VD;refine Za (WD (a,())) ?_;show (bif eqI (rgT a).1 2 then _ else bif eqI (rgT a).1 3 then _ else bif eqI (rgT a).1 4 then _ else bif eqI (rgT a).1 7 then _ else _)=_
 by_cases c2:(rgT a).1=2
 ·rw[Zn c2,Ze c2,Ze c2,Zb];refine Za (Zn1 l.ppu h.ppu (rgT a).2) ?_;obtain ⟨e1,e2⟩:=Zcw l.ppu (rgT a).2;generalize Yf l.ppu (rgT a).2=q at e1 e2⊢;obtain ⟨T,c,sc,ad,pal,bl,tb,ds⟩:=q;have e1:tb=l.ppu.table:=e1;have e2:ds=l.ppu.dots:=e2;subst e1 e2;show (bif leN (l.reads.length+1) (E.most .i)then _ else none)=_
  rw[hl];rfl
 rw[Zi c2,Zc c2,Zc c2,Zd];by_cases c3:(rgT a).1=3
 ·rw[Zn c3,Ze c3,Ze c3,Zb];refine Za (ZcD l.apu h.apu (rgT a).2) ?_;show (bif leN (l.reads.length+1) (E.most .i)then _ else none)=_
  rw[hl];rfl
 rw[Zi c3,Zc c3,Zc c3,Zd];by_cases c4:(rgT a).1=4
 ·rw[Zn c4,Ze c4,Ze c4,Zb];refine Za (ZcE l.pad l.pads l.ppu.T h.pads h.ppu.t) ?_;show (bif leN (l.reads.length+1) (E.most .i)then _ else none)=_
  rw[hl];rfl
 rw[Zi c4,Zc c4,Zc c4,Zd];by_cases c7:(rgT a).1=7
 ·have hz:ZQ l.img l.mem a=0:=by
   unfold ZQ;rw[Zc (by omega),Zc (by omega),Zc (by omega)]
  rw[Zn c7,hz];rfl
 ·rw[Zi c7,Zd];exact Za (V2 l.img l.mem a h.mem) rfl
theorem Zl7 (l:Zv) (a:Int) (h:Qa l) (hr:l.reads.length≤4398046511000):r347 (l.t,(a,()))=some (((JG l a).t,(VD l a,())),()):=by
 have hl:leN (l.reads.length+1) (E.most .i)=true:=ZP (by simp only[E.most];omega);unfold r347 m347 JG VD;refine Za (Wl (a,())) ?_;show (bif eqI (rgT a).1 2 then _ else bif eqI (rgT a).1 3 then _ else bif eqI (rgT a).1 4 then _ else _)=_
 by_cases c2:(rgT a).1=2
 ·rw[Zn c2,Ze c2,Ze c2,Zb];refine Za (ZcL l.ppu h.ppu (rgT a).2) ?_;show (bif leN (l.reads.length+1) (E.most .i)then _ else none)=_
  rw[hl];rfl
 rw[Zi c2,Zc c2,Zc c2,Zd];by_cases c3:(rgT a).1=3
 ·rw[Zn c3,Ze c3,Ze c3,Zb];refine Za (ZcI l.apu h.apu (rgT a).2) ?_;show (bif leN (l.reads.length+1) (E.most .i)then _ else none)=_
  rw[hl];rfl
 rw[Zi c3,Zc c3,Zc c3,Zd];by_cases c4:(rgT a).1=4
 ·rw[Zn c4,Ze c4,Ze c4,Zb];refine Za (ZcK l.pad l.pads l.ppu.T h.pads h.ppu.t) ?_;show (bif leN (l.reads.length+1) (E.most .i)then _ else none)=_
  rw[hl];rfl
 rw[Zi c4,Zc c4,Zc c4,Zd];exact Za (Zcb l.img l.mem a h.mem) rfl
theorem Zih (l:Zv) (a v:Int) (h:Qa l):r344 (l.t,(a,(v,())))=some ((),((JH l a v).t,())):=by
 unfold r344 m344 JH;refine Za (WD (a,())) ?_;show (bif eqI (rgT a).1 2 then _ else bif eqI (rgT a).1 3 then _ else bif eqI (rgT a).1 4 then _ else bif eqI (rgT a).1 1 then (bif eqI (rgT a).1 1 then _ else _)else bif eqI (rgT a).1 5 then (bif eqI (rgT a).1 5 then _ else _)else bif eqI (rgT a).1 6 then _ else _)=_
 by_cases c2:(rgT a).1=2
 ·rw[Zn c2,Ze c2,Zb];refine Za (ZlK l.ppu h.ppu (rgT a).2 v) ?_;have e2:(Yj l.ppu (rgT a).2 v).dots=l.ppu.dots:=Zc3 _ _ _;generalize Yj l.ppu (rgT a).2 v=q at e2⊢;obtain ⟨T,c,sc,ad,pal,bl,tb,ds⟩:=q;have e2:ds=l.ppu.dots:=e2;subst e2;rfl
 rw[Zi c2,Zc c2,Zd];by_cases c3:(rgT a).1=3
 ·rw[Zn c3,Ze c3,Zb];exact Za (ZbX l.apu h.apu (rgT a).2 v) rfl
 rw[Zi c3,Zc c3,Zd];by_cases c4:(rgT a).1=4
 ·rw[Zn c4,Ze c4,Zb];exact Za (Zb0 l.pad l.pads l.ppu.T v h.pads h.ppu.t) rfl
 rw[Zi c4,Zc c4,Zd];have kp:=ZfM l.img l.mem a v h.mem;by_cases c1:(rgT a).1=1
 ·rw[Zn c1,Zb,Zb];exact Za kp rfl
 rw[Zi c1,Zd];by_cases c5:(rgT a).1=5
 ·rw[Zn c5,Zb,Zb];exact Za kp rfl
 rw[Zi c5,Zd];by_cases c6:(rgT a).1=6
 ·rw[Zn c6,Zb];exact Za kp rfl
 ·rw[Zi c6,Zd];have e:KE l.img l.mem a v=l.mem:=by
   unfold KE;rw[Zc c1,Zc (by omega)]
  rw[e]
theorem Zjg (l:Zv) (a v:Int) (h:Qa l) (_:0≤v∧v≤255):r344 (l.t,(a,(v,())))=some ((),((JH l a v).t,())):=Zih l a v h
theorem Zi5 (l:Zv) (a v:Int) (h:Qa l):r348 (l.t,(a,(v,())))=some (((JH l a v).t,()),()):=by
 unfold r348 m348 JH;refine Za (Wl (a,())) ?_;show (bif eqI (rgT a).1 2 then _ else bif eqI (rgT a).1 3 then _ else bif eqI (rgT a).1 4 then _ else _)=_
 by_cases c2:(rgT a).1=2
 ·rw[Zn c2,Ze c2,Zb];exact Za (Zcc l.ppu h.ppu (rgT a).2 v) rfl
 rw[Zi c2,Zc c2,Zd];by_cases c3:(rgT a).1=3
 ·rw[Zn c3,Ze c3,Zb];exact Za (Zb7 l.apu h.apu (rgT a).2 v) rfl
 rw[Zi c3,Zc c3,Zd];by_cases c4:(rgT a).1=4
 ·rw[Zn c4,Ze c4,Zb];exact Za (Zca l.pad l.pads l.ppu.T v h.pads h.ppu.t) rfl
 rw[Zi c4,Zc c4,Zd];exact Za (Zgy l.img l.mem a v h.mem) rfl
theorem Zj9 (l:Zv) (a v:Int) (h:Qa l) (_:0≤v∧v≤255):r348 (l.t,(a,(v,())))=some (((JH l a v).t,()),()):=Zi5 l a v h
theorem ZeI (l:Zv) (v:Int) (h:Qa l) (hv:65530≤v∧v≤65534):r337 (l.t,(v,()))=some ((),((JM l v).t,())):=by
 unfold r337 m337;have e:wI (v+1)=v+1:=Zt (by omega) (by omega);have k:=V2 l.img l.mem (v+1) h.mem;rw[←e]at k;refine Za (V2 l.img l.mem v h.mem) (Za k (Za (Zak (ZQ l.img l.mem v,(ZQ l.img l.mem (wI (v+1)),()))) (Za (ZkS l.mem l.cpu (Xm (ZQ l.img l.mem v) (ZQ l.img l.mem (wI (v+1)))) h.mem.ram h.cpu) ?_)));rw[e];rfl
theorem ZhB (l:Zv) (a:Int):(JG l a).ppu.table=l.ppu.table∧(JG l a).ppu.dots=l.ppu.dots∧(JG l a).frames=l.frames∧(JG l a).samples=l.samples:=by
 obtain ⟨e1,e2⟩:=Zcw l.ppu (rgT a).2;unfold JG
 repeat' split
 all_goals first|exact ⟨e1,e2,rfl,rfl⟩|exact ⟨rfl,rfl,rfl,rfl⟩
theorem ZgJ (l:Zv) (a v:Int):(JH l a v).ppu.dots=l.ppu.dots∧(JH l a v).frames=l.frames∧(JH l a v).samples=l.samples:=by
 have e2:(Yj l.ppu (rgT a).2 v).dots=l.ppu.dots:=Zc3 _ _ _;unfold JH
 repeat' split
 all_goals first|exact ⟨e2,rfl,rfl⟩|exact ⟨rfl,rfl,rfl⟩
theorem Zlj (l:Zv) (op arg:Int):(opL l op arg).img=l.img∧(opL l op arg).pads=l.pads∧(opL l op arg).ppu.dots=l.ppu.dots∧(opL l op arg).frames=l.frames∧(opL l op arg).samples=l.samples:=by
 unfold opL;split
 ·obtain ⟨f1,f2,f3,f4,f5,f6⟩:=Zgd l (QZ op arg l.cpu.x);obtain ⟨g1,g2,g3,g4⟩:=ZhB l (QZ op arg l.cpu.x);exact ⟨f1,f5,g2,g3,g4⟩
 split
 ·obtain ⟨f1,f2,f3,f4,f5,f6⟩:=ZcA l (QZ op arg l.cpu.x) (l.cpu.a%256);obtain ⟨g1,g2,g3⟩:=ZgJ l (QZ op arg l.cpu.x) (l.cpu.a%256);exact ⟨f1,f5,g1,g2,g3⟩
 ·exact ⟨rfl,rfl,rfl,rfl,rfl⟩
theorem Znx (l:Zv) (op arg:Int) (h:Qa l) (hr:l.reads.length≤4398046511000) (ha:0≤arg∧arg≤65535):r338 (l.t,((op,(arg,())),()))=some ((),((opL l op arg).t,())):=by
 unfold r338 m338 opL;refine Za (Zaz op arg l.cpu h.cpu ha) ?_;show (bif eqI (ZS op) 1 then _ else bif eqI (ZS op) 2 then _ else _)=_
 by_cases o1:ZS op=1
 ·rw[Zn o1,Ze o1,Zb];refine Za (Zke l (QZ op arg l.cpu.x) h hr) ?_;have hv:=Zls h (QZ op arg l.cpu.x);obtain ⟨f1,f2,f3,f4,f5,f6⟩:=Zgd l (QZ op arg l.cpu.x);obtain ⟨g1,g2,g3,g4⟩:=ZhB l (QZ op arg l.cpu.x);generalize VD l (QZ op arg l.cpu.x)=v at hv⊢;generalize JG l (QZ op arg l.cpu.x)=l' at f1 f2 f3 f4 f5 f6 g1 g2 g3 g4⊢;obtain ⟨img,pads,mem,cpu,⟨pT,pc,ps,pa,pp,pb,ptb,pds⟩,apu,pad,nmi,st,fr,sm,rd⟩:=l';have f1:img=l.img:=f1;have f2:mem=l.mem:=f2;have f3:cpu=l.cpu:=f3;have f5:pads=l.pads:=f5;have g1:ptb=l.ppu.table:=g1;have g2:pds=l.ppu.dots:=g2;have g3:fr=l.frames:=g3;have g4:sm=l.samples:=g4;subst f1 f2 f3 f5 g1 g2 g3 g4;exact Za (Zd1 l.mem l.cpu op arg v h.mem.ram h.cpu hv) rfl
 rw[Zi o1,Zc o1,Zd];by_cases o2:ZS op=2
 ·rw[Zn o2,Ze o2,Zb];have ev:YY op l.cpu.a=l.cpu.a%256:=by unfold YY;rw[Ze o2]
  have kw:=Zjg l (QZ op arg l.cpu.x) (l.cpu.a%256) h (mod256 _);rw[←ev]at kw;refine Za kw ?_;rw[ev];have hq:=ZiB h (QZ op arg l.cpu.x) (l.cpu.a%256);obtain ⟨f1,f2,f3,f4,f5,f6⟩:=ZcA l (QZ op arg l.cpu.x) (l.cpu.a%256);obtain ⟨g1,g2,g3⟩:=ZgJ l (QZ op arg l.cpu.x) (l.cpu.a%256);generalize JH l (QZ op arg l.cpu.x) (l.cpu.a%256)=l' at hq f1 f2 f3 f4 f5 f6 g1 g2 g3⊢;have h1:=hq.mem.ram;have h2:=hq.cpu;clear hq;obtain ⟨img,pads,mem,cpu,⟨pT,pc,ps,pa,pp,pb,ptb,pds⟩,apu,pad,nmi,st,fr,sm,rd⟩:=l';have f1:img=l.img:=f1;have f4:rd=l.reads:=f4;have f5:pads=l.pads:=f5;have g1:pds=l.ppu.dots:=g1;have g2:fr=l.frames:=g2;have g3:sm=l.samples:=g3;subst f1 f4 f5 g1 g2 g3;exact Za (Zd1 mem cpu op arg 0 h1 h2 (by decide)) rfl
 ·rw[Zi o2,Zc o2,Zd];have ev:YY op l.cpu.a=0:=by unfold YY;rw[Zc o2]
  have k:=Zd1 l.mem l.cpu op arg 0 h.mem.ram h.cpu (by decide);rw[←ev]at k;refine Za k ?_;rw[ev];rfl
theorem ZjR {l:Zv} (h:Qa l):leN (l.frames.length+1) (E.most .n)=true∧leN (l.samples.length+1) (E.most .i)=true:=by
 have h1:=h.frn;have h2:=h.sam;have h3:=h.ppu.t;unfold YF at h1;exact ⟨ZP (by simp only[E.most];omega),ZP (by simp only[E.most];omega)⟩
theorem Zkg (l:Zv) (h:Qa l) (ht:l.ppu.T<20000):r339 (l.t,())=some ((),((Yz l).t,())):=by
 obtain ⟨hf,hs⟩:=ZjR h;have kp:=Zow l.ppu h.ppu ht;have ka:=Zg4 l.apu h.apu (by rw[h.t];exact ht);have et:=ZbO l.ppu;unfold r339 m339;refine Za kp ?_;clear kp h ht;unfold Yz;obtain ⟨img,pads,mem,cpu,ppu,apu,pad,nmi,steps,frames,samples,reads⟩:=l;dsimp only at hf hs ka et⊢;generalize Jx ppu=q at et⊢;generalize JQ ppu=b;generalize Yv ppu=fr;generalize Kr ppu=aq;generalize YJ apu=b2 at ka⊢;generalize We apu=sa at ka⊢;generalize W4 apu=a' at ka⊢;obtain ⟨T,c,sc,ad,pal,bl,tb,ds⟩:=q;have et:tb=ppu.table:=et;subst et;cases b with
 |true=>
  show (bif leN (frames.length+1) (E.most .n)then (bif nmi then _ else _)else none)=_
  rw[hf,Zb];cases nmi with
  |true=>
   rw[Zb];refine Za ka ?_;cases b2 with
   |true=>show (bif leN (samples.length+1) (E.most .i)then _ else none)=_;rw[hs];rfl
   |false=>rfl
  |false=>
   rw[Zd];refine Za ka ?_;cases b2 with
   |true=>show (bif leN (samples.length+1) (E.most .i)then _ else none)=_;rw[hs];rfl
   |false=>rfl
 |false=>
  show (bif nmi then _ else _)=_
  cases nmi with
  |true=>
   rw[Zb];refine Za ka ?_;cases b2 with
   |true=>show (bif leN (samples.length+1) (E.most .i)then _ else none)=_;rw[hs];rfl
   |false=>rfl
  |false=>
   rw[Zd];refine Za ka ?_;cases b2 with
   |true=>show (bif leN (samples.length+1) (E.most .i)then _ else none)=_;rw[hs];rfl
   |false=>rfl
theorem Zl9 (l:Zv) (h:Qa l) (ht:l.ppu.T<20000):r346 (l.t,())=some (((Yz l).t,()),()):=by
 obtain ⟨hf,hs⟩:=ZjR h;have kp:=Zjb l.ppu h.ppu ht;have ka:=Zhm l.apu h.apu (by rw[h.t];exact ht);have eb:eqI (Int.tmod l.ppu.T 64) 48=JQ l.ppu:=by rw[Qw h.ppu.t.1];rfl
 unfold r346 m346;refine Za kp (Za ka ?_);clear kp ka h ht;unfold Yz;obtain ⟨img,pads,mem,cpu,ppu,apu,pad,nmi,steps,frames,samples,reads⟩:=l;dsimp only at hf hs eb⊢;show (bif eqI (Int.tmod ppu.T 64) 48 then (bif leN (frames.length+1) (E.most .n)then (bif YJ apu then (bif leN (samples.length+1) (E.most .i)then (bif nmi then _ else _)else none)else bif nmi then _ else _)else none)else bif YJ apu then (bif leN (samples.length+1) (E.most .i)then (bif nmi then _ else _)else none)else bif nmi then _ else _)=_
 rw[eb,hf,hs];generalize JQ ppu=b;generalize YJ apu=b2;cases b<;>cases b2<;>cases nmi<;>rfl
theorem ZaQ: ∀(n:Nat) (l:Zv),(QI n l).img=l.img∧(QI n l).pads=l.pads∧(QI n l).mem=l.mem∧(QI n l).ppu.table=l.ppu.table∧(QI n l).reads=l.reads
 |0,l=>⟨rfl,rfl,rfl,rfl,rfl⟩
 |n+1,l=>by
  obtain ⟨a,b,c,d,e⟩:=ZaQ n (Yz l);exact ⟨a,b,c,d.trans (ZbO l.ppu),e⟩
theorem ZcH (c:Int) (hc:c≤7): ∀(d k:Nat) (i:Int) (l:Zv),0≤i→i+d=c→d<k→Qa l→l.ppu.T+d≤20000→
  n320_0 r337 r338 r339 r195 r191 k (c,()) (l.t,()) (i,())=some (Sum.inl (c,()),((QI d l).t,()))
 |_,0,_,_,_,_,h,_,_=>absurd h (by omega)
 |0,k+1,i,l,h0,hi,_,_,_=>by
  show (bif ltI i c then _ else some (Sum.inl (i,()),(l.t,())))=_
  rw[Zx (by omega),Zd,show i=c by omega];rfl
 |d+1,k+1,i,l,h0,hi,hk,h,ht=>by
  show (bif ltI i c then (r339 (l.t,())).bind _ else _)=_
  rw[Zk (by omega),Zb];refine Za (Zkg l h (by omega)) ?_;have e:wI (i+1)=i+1:=Zt (by omega) (by omega);have ih:=ZcH c hc d k (i+1) (Yz l) (by omega) (by omega) (by omega) (ZkJ h (by omega)) (by rw[Ziy];omega);rw[←e]at ih;show _=some (Sum.inl (c,()),((QI d (Yz l)).t,()));generalize QI d (Yz l)=z at ih⊢;have e1:(Yz l).ppu.table=l.ppu.table:=ZbO _;have e2:(Yz l).img=l.img:=rfl;have e3:(Yz l).pads=l.pads:=rfl;have e4:(Yz l).mem=l.mem:=rfl;have e5:(Yz l).reads=l.reads:=rfl;generalize Yz l=l' at ih e1 e2 e3 e4 e5⊢;obtain ⟨img,pads,mem,cpu,⟨pT,pc,ps,pa,pp,pb,ptb,pds⟩,apu,pad,nmi,st,fr,sm,rd⟩:=l';have e1:ptb=l.ppu.table:=e1;have e2:img=l.img:=e2;have e3:pads=l.pads:=e3;have e4:mem=l.mem:=e4;have e5:rd=l.reads:=e5;subst e1 e2 e3 e4 e5;exact ih
theorem Zdm (c:Int) (hc:c≤7): ∀(d k:Nat) (i:Int) (l:Zv),0≤i→i+d=c→d<k→Qa l→l.ppu.T+d≤20000→
  n340_0 r345 r346 k (c,()) (l.t,()) (i,())=some (Sum.inl (c,()),((QI d l).t,()))
 |_,0,_,_,_,_,h,_,_=>absurd h (by omega)
 |0,k+1,i,l,h0,hi,_,_,_=>by
  show (bif ltI i c then _ else some (Sum.inl (i,()),(l.t,())))=_
  rw[Zx (by omega),Zd,show i=c by omega];rfl
 |d+1,k+1,i,l,h0,hi,hk,h,ht=>by
  show (bif ltI i c then (r346 (l.t,())).bind _ else _)=_
  rw[Zk (by omega),Zb];refine Za (Zl9 l h (by omega)) ?_;have e:wI (i+1)=i+1:=Zt (by omega) (by omega);have ih:=Zdm c hc d k (i+1) (Yz l) (by omega) (by omega) (by omega) (ZkJ h (by omega)) (by rw[Ziy];omega);rw[←e]at ih;exact ih
theorem Zf1 (m:Zv) (c:Int) (hc:2≤c∧c≤7) (h:Qa m) (ht:m.ppu.T+c≤20000):L320_0 (c,()) (m.t,()) (0,())=some (Sum.inl (c,()),((QI c.toNat m).t,())):=
 ZcH c hc.2 c.toNat fuel 0 m (by omega) (by omega) (by have:=Z6;omega) h (by omega)
theorem Zo3 (m:Zv) (c:Int) (hc:2≤c∧c≤7) (h:Qa m) (ht:m.ppu.T+c≤20000):L340_0 (c,()) (m.t,()) (0,())=some (Sum.inl (c,()),((QI c.toNat m).t,())):=
 Zdm c hc.2 c.toNat fuel 0 m (by omega) (by omega) (by have:=Z6;omega) h (by omega)
def Ki (l:Zv):Zv:=if Q1 l then Q4 l else l
theorem Ze6 {m:Zv} {n:Nat} (h:Qa m) (ht:m.ppu.T+n≤20000):wI ((QI n m).steps+1)=(QI n m).steps+1:=by
 obtain ⟨a,b,c,d⟩:=Ziz h ht;have:=a.s0;have:=a.s1;exact Zt (by omega) (by omega)
theorem Zc2 {l:Zv} (hm:Q1 l=true) {m:Zv} (hd:doL l=m) {c:Int} (hc:QN l=c):Ki l={(QI c.toNat m)with steps:=(QI c.toNat m).steps+1}:=by
 unfold Ki;rw[Ze hm];unfold Q4;rw[hc,hd]
theorem Zkf (l:Zv) (h:Qa l) (hr:l.reads.length≤4398046511000):r320 (l.t,())=some ((Q1 l,()),((Ki l).t,())):=by
 have kf:=Zcm l.img l.mem l.cpu.pc h.mem h.cpu.pc;have kc:=Zaa (Ql l,());have hb:=Zfn l;have hT:=h.ppu.t;have hP:=Zqk h;have hdt:=Zql l;have ho:=Zct (Ql l);unfold r320 m320;show (bif l.nmi then _ else bif l.apu.irq then _ else _)=_
 cases hn:l.nmi with
 |true=>
  have hc:QN l=7:=by unfold QN KV;rw[hn];rfl
  have hd:doL l=JM {l with nmi:=false} 65530:=by unfold doL;rw[hn];rfl
  have ew:wI (l.ppu.T+7)=l.ppu.T+7:=Zt (by omega) (by omega);rw[Zb];refine Za kf (Za kc ?_);show (bif ltI 20000 (wI (l.ppu.T+7))then _ else bif l.nmi then _ else _)=_
  rw[ew,hn,Zb];by_cases hm:l.ppu.T+7≤20000
  ·have hmay:Q1 l=true:=ZC (by rw[hc];exact hm);rw[Zx (by omega),Zd];refine Za (ZeI {l with nmi:=false} 65530 ⟨h.mem,h.pads,h.cpu,h.ppu,h.apu,h.pad,h.t,h.s0,h.s1,h.fr,h.frn,h.sam⟩ (by omega)) ?_
   rw[hd]at hP;have hq:(JM {l with nmi:=false} 65530).ppu.T+7≤20000:=hm
   have kt:L320_0 (7,()) ((JM {l with nmi:=false} 65530).t,()) (0,())=some (Sum.inl (7,()),((QI 7 (JM {l with nmi:=false} 65530)).t,())):=Zf1 (JM {l with nmi:=false} 65530) 7 (by omega) hP hq
   refine Za kt ?_;clear kt;have hw:=Ze6 (n:=7) hP hq;obtain ⟨r1,r2,r3,r4,r5⟩:=ZaQ 7 (JM {l with nmi:=false} 65530)
   rw[hmay,Zc2 hmay hd hc];show _=some ((true,()),(Zv.t {(QI 7 (JM {l with nmi:=false} 65530))with steps:=(QI 7 (JM {l with nmi:=false} 65530)).steps+1},()))
   rw[←hw];generalize QI 7 (JM {l with nmi:=false} 65530)=q at r1 r2 r3 r4 r5⊢
   obtain ⟨img,pads,mem,cpu,⟨pT,pc,ps,pa,pp,pb,ptb,pds⟩,apu,pad,nmi,st,fr,sm,rd⟩:=q;have r1:img=l.img:=r1;have r2:pads=l.pads:=r2;have r3:mem=XP l.mem l.cpu:=r3;have r4:ptb=l.ppu.table:=r4;have r5:rd=l.reads:=r5;subst r1 r2 r3 r4 r5;rfl
  ·have hmay:Q1 l=false:=Zw (by rw[hc];exact hm);rw[Zk (by omega),Zb,hmay];unfold Ki;rw[hmay,Zc (by simp)]
 |false=>
  rw[Zd];by_cases hq:l.apu.irq=true∧l.cpu.i=false
  ·obtain ⟨hirq,hi⟩:=hq;have hc:QN l=7:=by unfold QN KV;rw[hn,hirq,hi];rfl
   have hd:doL l=JM l 65534:=by unfold doL;rw[hn,hirq,hi];rfl
   have ew:wI (l.ppu.T+7)=l.ppu.T+7:=Zt (by omega) (by omega);rw[hirq,Zb];refine Za kf (Za kc ?_);show (bif !l.cpu.i then (bif ltI 20000 (wI (l.ppu.T+7))then _ else bif l.nmi then _ else bif !l.cpu.i then _ else _)else _)=_
   rw[ew,hn,hi,QF,Zb,Zd,Zb];by_cases hm:l.ppu.T+7≤20000
   ·have hmay:Q1 l=true:=ZC (by rw[hc];exact hm);rw[Zx (by omega),Zd];refine Za (ZeI l 65534 h (by omega)) ?_;rw[hd]at hP;have hq:(JM l 65534).ppu.T+7≤20000:=hm;have kt:L320_0 (7,()) ((JM l 65534).t,()) (0,())=some (Sum.inl (7,()),((QI 7 (JM l 65534)).t,())):=Zf1 (JM l 65534) 7 (by omega) hP hq;refine Za kt ?_;clear kt;have hw:=Ze6 (n:=7) hP hq;obtain ⟨r1,r2,r3,r4,r5⟩:=ZaQ 7 (JM l 65534);rw[hmay,Zc2 hmay hd hc];show _=some ((true,()),(Zv.t {(QI 7 (JM l 65534))with steps:=(QI 7 (JM l 65534)).steps+1},()))
    rw[←hw];generalize QI 7 (JM l 65534)=q at r1 r2 r3 r4 r5⊢;obtain ⟨img,pads,mem,cpu,⟨pT,pc,ps,pa,pp,pb,ptb,pds⟩,apu,pad,nmi,st,fr,sm,rd⟩:=q;have r1:img=l.img:=r1;have r2:pads=l.pads:=r2;have r3:mem=XP l.mem l.cpu:=r3;have r4:ptb=l.ppu.table:=r4;have r5:rd=l.reads:=r5;subst r1 r2 r3 r4 r5;rfl
   ·have hmay:Q1 l=false:=Zw (by rw[hc];exact hm);rw[Zk (by omega),Zb,hmay];unfold Ki;rw[hmay,Zc (by simp)]
  ·have hask:KV l=false:=by
    unfold KV;rw[hn];cases h1:l.apu.irq with
    |false=>rfl
    |true=>
     cases h2:l.cpu.i with
     |true=>rfl
     |false=>exact absurd ⟨h1,h2⟩ hq
   have hc:QN l=Qr (Ql l):=by unfold QN;rw[hask];rfl
   have hd:doL l=opL l (Ql l) (Yr l):=by
    unfold doL;unfold KV at hask;rw[hn,Bool.false_or]at hask;rw[hn,hask];rfl
   have ew:wI (l.ppu.T+Qr (Ql l))=l.ppu.T+Qr (Ql l):=Zt (by omega) (by omega);have key: ∀(X:Option (PTup o320×BTup i320)),
     X=(bif ltI 20000 (wI (l.ppu.T+Qr (Ql l)))then (some ((false,()),(l.t,())))else (r338 (l.t,((Ql l,(Yr l,())),()))).bind fun r2=>(L320_0 (Qr (Ql l),()) (Zv.t {lkM r2.2.1 with img:=l.img,pads:=l.pads,frames:=l.frames,samples:=l.samples,ppu:={(lkM r2.2.1).ppu with dots:=l.ppu.dots}},()) (0,())).bind fun r3=>ZE r3.1 (fun r4=>some ((true,()),(Zv.t {lkM r3.2.1 with img:=l.img,pads:=l.pads,mem:=⟨(lkM r2.2.1).mem.ram,(lkM r3.2.1).mem.bank⟩,ppu:={(lkM r3.2.1).ppu with table:=(lkM r2.2.1).ppu.table},reads:=(lkM r2.2.1).reads,steps:=wI ((lkM r3.2.1).steps+1)},()))) (fun r4=>some ((false,()),(Zv.t {lkM r3.2.1 with img:=l.img,pads:=l.pads,mem:=⟨(lkM r2.2.1).mem.ram,(lkM r3.2.1).mem.bank⟩,ppu:={(lkM r3.2.1).ppu with table:=(lkM r2.2.1).ppu.table},reads:=(lkM r2.2.1).reads},()))))→
     X=some ((Q1 l,()),((Ki l).t,())):=by
    intro X hX;rw[hX,ew];by_cases hm:l.ppu.T+Qr (Ql l)≤20000
    ·have hmay:Q1 l=true:=ZC (by rw[hc];exact hm);rw[Zx (by omega),Zd];refine Za (Znx l (Ql l) (Yr l) h hr (ZmK h.mem _)) ?_;rw[hmay,Zc2 hmay hd hc];obtain ⟨q1,q2,q3,q4,q5⟩:=Zlj l (Ql l) (Yr l);rw[hd]at hP hdt;generalize opL l (Ql l) (Yr l)=m at q1 q2 q3 q4 q5 hP hdt⊢;have hq:m.ppu.T+Qr (Ql l)≤20000:=by rw[hdt];exact hm
     have kt:=Zf1 m (Qr (Ql l)) (by omega) hP hq;have hw:=Ze6 (n:=(Qr (Ql l)).toNat) hP (by omega);obtain ⟨r1,r2,r3,r4,r5⟩:=ZaQ (Qr (Ql l)).toNat m;clear hP hdt hq;generalize QI (Qr (Ql l)).toNat m=q at kt hw r1 r2 r3 r4 r5⊢;obtain ⟨img,pads,mem,cpu,⟨pT,pc,ps,pa,pp,pb,ptb,pds⟩,apu,pad,nmi,st,fr,sm,rd⟩:=m;have q1:img=l.img:=q1;have q2:pads=l.pads:=q2;have q3:pds=l.ppu.dots:=q3;have q4:fr=l.frames:=q4;have q5:sm=l.samples:=q5;subst q1 q2 q3 q4 q5;refine Za kt ?_;obtain ⟨img,pads,mem',cpu',⟨pT',pc',ps',pa',pp',pb',ptb',pds'⟩,apu',pad',nmi',st',fr',sm',rd'⟩:=q;change img=l.img at r1;change pads=l.pads at r2;change mem'=mem at r3;change ptb'=ptb at r4;change rd'=rd at r5;subst r1 r2 r3 r4 r5;have hw:wI (st'+1)=st'+1:=hw;show _=some ((true,()),(Zv.t ⟨_,_,_,_,_,_,_,_,st'+1,_,_,_⟩,()));rw[←hw];rfl
    ·have hmay:Q1 l=false:=Zw (by rw[hc];exact hm);rw[Zk (by omega),Zb,hmay];unfold Ki;rw[hmay,Zc (by simp)]
   cases hirq:l.apu.irq with
   |true=>
    have hi:l.cpu.i=true:=by
     cases h2:l.cpu.i with
     |true=>rfl
     |false=>exact absurd ⟨hirq,h2⟩ hq
    rw[Zb];refine Za kf (Za kc ?_);show (bif !l.cpu.i then _ else bif ltI 20000 (wI (l.ppu.T+Qr (Ql l)))then _ else bif l.nmi then _ else bif !l.cpu.i then _ else _)=_
    rw[hn,hi,ZK,Zd,Zd,Zd];exact key _ rfl
   |false=>
    rw[Zd];refine Za kf (Za kc ?_);show (bif ltI 20000 (wI (l.ppu.T+Qr (Ql l)))then _ else bif l.nmi then _ else _)=_
    rw[hn,Zd];exact key _ rfl
def Xx (l:Zv):Bool:=Y4 l.img l.mem.t&&(XC l.pads&&(Yp l.cpu.t&&(YS l.ppu.t&&(Xd l.apu.t&&(inR 0 255 l.pad.t.2.1&&(eqI l.apu.T l.ppu.T&&(inR 0 l.ppu.T l.steps&&(XS l.frames l.ppu.T&&WX l.samples l.ppu.T))))))))
theorem Zam {l:Zv}:Xx l=true↔Qa l:=by
 unfold Xx;simp only[Bool.and_eq_true];constructor
 ·rintro ⟨a,b,c,d,e,f,g,h,i,j⟩;have d:=WR.1 d;obtain ⟨i1,i2⟩:=(ZaS d.t.1).1 i;have h:=JE.1 h;exact ⟨UA.1 a,UG.1 b,Zda.1 c,d,Wu.1 e,JE.1 f,Vq.1 g,h.1,h.2,i1,i2,(ZaC d.t.1).1 j⟩
 ·rintro ⟨a,b,c,d,e,f,g,h0,h1,i1,i2,j⟩;exact ⟨UA.2 a,UG.2 b,Zda.2 c,WR.2 d,Wu.2 e,JE.2 f,Vq.2 g,JE.2 ⟨h0,h1⟩,(ZaS d.t.1).2 ⟨i1,i2⟩,(ZaC d.t.1).2 j⟩
theorem Zdh (l:Zv) (hs:YQ l.t):r318 (l.t,())=some ((Xx l,()),()):=by
 obtain ⟨h1,h2,h3,h4,⟨h5,_,_⟩,h6,h7⟩:=hs;have h2:l.pads.length≤4398046511104:=h2;unfold r318 m318 Xx;refine Za (ZaV l.img l.mem.t h1 h3) ?_;show (bif Y4 l.img l.mem.t then _ else _)=_
 cases Y4 l.img l.mem.t with
 |false=>rfl
 |true=>
 rw[Zb,Bool.true_and];refine Za (Zbv l.pads (by omega)) ?_;show (bif XC l.pads then _ else _)=_
 cases XC l.pads with
 |false=>rfl
 |true=>
 rw[Zb,Bool.true_and];refine Za (ZbY l.cpu.t) ?_;show (bif Yp l.cpu.t then _ else _)=_
 cases Yp l.cpu.t with
 |false=>rfl
 |true=>
 rw[Zb,Bool.true_and];refine Za (ZeF l.ppu.t h4) ?_;show (bif YS l.ppu.t then _ else _)=_
 cases e:YS l.ppu.t with
 |false=>rfl
 |true=>
 have hT:=(WR.1 e).t;rw[Zb,Bool.true_and];refine Za (ZaU l.apu.t) ?_;show (bif Xd l.apu.t then _ else _)=_
 cases Xd l.apu.t with
 |false=>rfl
 |true=>
 rw[Zb,Bool.true_and];refine Za (WF (l.pad.t.2.1,())) ?_;show (bif inR 0 255 l.pad.t.2.1 then _ else _)=_
 cases inR 0 255 l.pad.t.2.1 with
 |false=>rfl
 |true=>
 rw[Zb,Bool.true_and];show (bif eqI l.apu.T l.ppu.T then _ else _)=_
 cases eqI l.apu.T l.ppu.T with
 |false=>rfl
 |true=>
 rw[Zb,Bool.true_and];refine Za (XH (l.steps,(0,(l.ppu.T,())))) ?_;show (bif inR 0 l.ppu.T l.steps then _ else _)=_
 cases inR 0 l.ppu.T l.steps with
 |false=>rfl
 |true=>
 rw[Zb,Bool.true_and];refine Za (ZbZ l.frames l.ppu.T h5 hT.1 hT.2) ?_;show (bif XS l.frames l.ppu.T then _ else _)=_
 cases XS l.frames l.ppu.T with
 |false=>rfl
 |true=>
 rw[Zb,Bool.true_and];exact Za (ZbQ l.samples l.ppu.T hT.1 hT.2) rfl
theorem ZbI (l:Zv) (hs:YQ l.t):r323 (l.t,())=some ((Xx l,()),()):=by
 obtain ⟨h1,h2,h3,h4,⟨h5,_,_⟩,h6,h7⟩:=hs;have h2:l.pads.length≤4398046511104:=h2;unfold r323 m323 Xx;rw[Bool.and_left_comm (Y4 l.img l.mem.t)];refine Za (ZbJ l.pads (by omega)) ?_;show (bif XC l.pads then _ else _)=_
 cases XC l.pads with
 |false=>rfl
 |true=>
 rw[Zb,Bool.true_and];refine Za (Za4 l.img l.mem.t h1 h3) ?_;show (bif Y4 l.img l.mem.t then _ else _)=_
 cases Y4 l.img l.mem.t with
 |false=>rfl
 |true=>
 rw[Zb,Bool.true_and];refine Za (Zb8 l.cpu.t) ?_;show (bif Yp l.cpu.t then _ else _)=_
 cases Yp l.cpu.t with
 |false=>rfl
 |true=>
 rw[Zb,Bool.true_and];refine Za (Za6 l.ppu.t h4) ?_;show (bif YS l.ppu.t then _ else _)=_
 cases e:YS l.ppu.t with
 |false=>rfl
 |true=>
 have hT:=(WR.1 e).t;rw[Zb,Bool.true_and];refine Za (Za3 l.apu.t) ?_;show (bif Xd l.apu.t then _ else _)=_
 cases Xd l.apu.t with
 |false=>rfl
 |true=>
 rw[Zb,Bool.true_and];refine Za (Vs (l.pad.t.2.1,())) ?_;show (bif inR 0 255 l.pad.t.2.1 then _ else _)=_
 cases inR 0 255 l.pad.t.2.1 with
 |false=>rfl
 |true=>
 rw[Zb,Bool.true_and];show (bif eqI l.ppu.T l.apu.T then _ else _)=_
 rw[show eqI l.ppu.T l.apu.T=eqI l.apu.T l.ppu.T by by_cases e:l.ppu.T=l.apu.T;rw[Zn e,Zn e.symm];rw[Zi e,Zi (Ne.symm e)]];cases eqI l.apu.T l.ppu.T with
 |false=>rfl
 |true=>
 rw[Zb,Bool.true_and];refine Za (JV (l.steps,(0,(l.ppu.T,())))) ?_;show (bif inR 0 l.ppu.T l.steps then _ else _)=_
 cases inR 0 l.ppu.T l.steps with
 |false=>rfl
 |true=>
 rw[Zb,Bool.true_and];refine Za (Zb9 l.frames l.ppu.T h5 hT.1 hT.2) ?_;show (bif XS l.frames l.ppu.T then _ else _)=_
 cases XS l.frames l.ppu.T with
 |false=>rfl
 |true=>
 rw[Zb,Bool.true_and];show some ((eqI (l.samples.length:Int) (wI (Int.tdiv l.ppu.T 16)),()),())=_;unfold WX;rw[Zt (by rw[W3 hT.1];omega) (by rw[W3 hT.1];omega)]
theorem ZlS (l:Zv) (hs:YQ l.t):r319 (l.t,())=some ((l.t,()),()):=by
 obtain ⟨h1,h2,h3,h4,h5,h6,h7⟩:=hs;unfold r319 m319;exact Za (ZaR l.img h1) (Za (Xh l.pads h2) (Za (Zg8 l.mem.t h3) (Za (Zg9 l.ppu.t h4) (Za (Zbt l.frames h5) (Za (Xh l.samples h6) (Za (Xh l.reads h7) rfl))))))
theorem ZfS (l:Zv) (hs:YQ l.t):r324 (l.t,())=some ((l.t,()),()):=by
 obtain ⟨h1,h2,h3,h4,h5,h6,h7⟩:=hs;have h2:l.pads.length≤4398046511104:=h2;have h6:l.samples.length≤4398046511104:=h6;have h7:l.reads.length≤4398046511104:=h7;unfold r324 m324;refine Za (Zal l.img h1) ?_;show (bif leN (0+l.pads.length) (E.most .i)then _ else none)=_
 rw[ZP (show 0+l.pads.length≤E.most .i by simp only[E.most];omega),Zb];refine Za (Zdp l.mem.t h3) (Za (Ux l.ppu.t h4) (Za (Zcp l.frames h5) ?_));show (bif leN (0+l.samples.length) (E.most .i)then (bif leN (0+l.reads.length) (E.most .i)then _ else none)else none)=_
 rw[ZP (show 0+l.samples.length≤E.most .i by simp only[E.most];omega),Zb,ZP (show 0+l.reads.length≤E.most .i by simp only[E.most];omega),Zb];rfl
theorem Zo2 (l:Zv) (h:Qa l) (hr:l.reads.length≤4398046511000):r345 (l.t,())=some (((doL l).t,(QN l,())),()):=by
 have kf:=Zaw l.img l.mem l.cpu.pc h.mem h.cpu.pc;have kc:=Zab (Ql l,());have ka:=Zai (Ql l) (Yr l) l.cpu h.cpu (ZmK h.mem _);unfold r345 m345;show (bif l.nmi then _ else bif l.apu.irq then (bif !l.cpu.i then _ else _)else _)=_
 cases hn:l.nmi with
 |true=>
  have hc:QN l=7:=by unfold QN KV;rw[hn];rfl
  have hd:doL l=JM {l with nmi:=false} 65530:=by unfold doL;rw[hn];rfl
  rw[Zb,hc,hd];exact Za (Zav l.img l.mem l.cpu 65530 h.mem h.cpu (by omega)) rfl
 |false=>
  rw[Zd];by_cases hq:l.apu.irq=true∧l.cpu.i=false
  ·obtain ⟨hirq,hi⟩:=hq;have hc:QN l=7:=by unfold QN KV;rw[hn,hirq,hi];rfl
   have hd:doL l=JM l 65534:=by unfold doL;rw[hn,hirq,hi];rfl
   rw[hirq,Zb,hi,QF,Zb,hc,hd];exact Za (Zav l.img l.mem l.cpu 65534 h.mem h.cpu (by omega)) rfl
  ·have hask:KV l=false:=by
    unfold KV;rw[hn];cases h1:l.apu.irq with
    |false=>rfl
    |true=>
     cases h2:l.cpu.i with
     |true=>rfl
     |false=>exact absurd ⟨h1,h2⟩ hq
   have hc:QN l=Qr (Ql l):=by unfold QN;rw[hask];rfl
   have hd:doL l=opL l (Ql l) (Yr l):=by
    unfold doL;unfold KV at hask;rw[hn,Bool.false_or]at hask;rw[hn,hask];rfl
   rw[hc,hd];have e:(bif l.apu.irq then (bif !l.cpu.i then (0:Nat)else 1)else 1)=1:=by
    cases h1:l.apu.irq with
    |false=>rfl
    |true=>
     cases h2:l.cpu.i with
     |true=>rfl
     |false=>exact absurd ⟨h1,h2⟩ hq
   have pick: ∀{A:Type} (x y:A),(bif l.apu.irq then (bif !l.cpu.i then x else y)else y)=y:=by
    intro A x y;cases h1:l.apu.irq with
    |false=>rfl
    |true=>
     cases h2:l.cpu.i with
     |true=>rfl
     |false=>exact absurd ⟨h1,h2⟩ hq
   refine (pick _ _).trans ?_;refine Za kf (Za ka ?_);unfold opL;show (bif eqI (ZS (Ql l)) 1 then _ else bif eqI (ZS (Ql l)) 2 then _ else _)=_
   by_cases o1:ZS (Ql l)=1
   ·rw[Zn o1,Ze o1,Zb];refine Za (Zl7 l (QZ (Ql l) (Yr l) l.cpu.x) h hr) ?_;have hv:=Zls h (QZ (Ql l) (Yr l) l.cpu.x);have hp:=ZnY h (QZ (Ql l) (Yr l) l.cpu.x);generalize VD l (QZ (Ql l) (Yr l) l.cpu.x)=v at hv⊢;generalize JG l (QZ (Ql l) (Yr l) l.cpu.x)=l' at hp⊢;exact Za (Zan l'.mem l'.cpu (Ql l) (Yr l) v hp.mem.ram hp.cpu) (Za kc rfl)
   rw[Zi o1,Zc o1,Zd];by_cases o2:ZS (Ql l)=2
   ·rw[Zn o2,Ze o2,Zb];have ev:YY (Ql l) l.cpu.a=l.cpu.a%256:=by unfold YY;rw[Ze o2]
    have kw:=Zj9 l (QZ (Ql l) (Yr l) l.cpu.x) (l.cpu.a%256) h (mod256 _);rw[←ev]at kw;refine Za kw ?_;rw[ev];have hp:=ZiB h (QZ (Ql l) (Yr l) l.cpu.x) (l.cpu.a%256);generalize JH l (QZ (Ql l) (Yr l) l.cpu.x) (l.cpu.a%256)=l' at hp⊢;exact Za (Zan l'.mem l'.cpu (Ql l) (Yr l) 0 hp.mem.ram hp.cpu) (Za kc rfl)
   ·rw[Zi o2,Zc o2,Zd];exact Za (Zan l.mem l.cpu (Ql l) (Yr l) 0 h.mem.ram h.cpu) (Za kc rfl)
theorem Zl8 (l:Zv) (h:Qa l) (hr:l.reads.length≤4398046511000):r340 (l.t,())=some ((if Q1 l then (Q4 l).t else Zmh,(Q1 l,())),()):=by
 have hb:=Zfn l;have hT:=h.ppu.t;have hP:=Zqk h;have hdt:=Zql l;unfold r340 m340;refine Za (Zo2 l h hr) ?_;show (bif ltI 20000 (wI ((doL l).ppu.T+QN l))then _ else _)=_
 rw[hdt,Zt (by omega) (by omega)];by_cases hm:l.ppu.T+QN l≤20000
 ·have hmay:Q1 l=true:=ZC hm;rw[Zx (by omega),Zd,hmay,Ze rfl];have hq:(doL l).ppu.T+QN l≤20000:=by rw[hdt];exact hm
  refine Za (Zo3 (doL l) (QN l) hb hP hq) ?_;have hw:=Ze6 (n:=(QN l).toNat) hP (by omega);show _=some ((Zv.t {(QI (QN l).toNat (doL l))with steps:=(QI (QN l).toNat (doL l)).steps+1},(true,())),())
  rw[←hw];rfl
 ·have hmay:Q1 l=false:=Zw hm;rw[Zk (by omega),Zb,hmay];rfl
theorem Zbj {l:Zv} (h:Qa l) (hr:l.reads.length≤4398046511000):YQ l.t:=h.s (by omega)
theorem Zgu (l:Zv) (h:Qa l) (hr:l.reads.length≤4398046511000):r325 (l.t,())=some (((Ki l).t,(Q1 l,())),()):=by
 have hs:=Zbj h hr;unfold r325 m325 Ki;refine Za (ZbI l hs) ?_;show (bif !Xx l then _ else _)=_
 rw[Zam.2 h,ZK,Zd];refine Za (ZfS l hs) (Za (Zl8 l h hr) ?_);show (bif Q1 l then _ else _)=_
 cases hm:Q1 l with
 |true=>rfl
 |false=>
  rw[Zd];exact Za (ZfS l hs) rfl
theorem Zm7 (l:Zv):(doL l).img=l.img∧(doL l).pads=l.pads:=by
 unfold doL;split
 ·exact ⟨rfl,rfl⟩
 split
 ·exact ⟨rfl,rfl⟩
 ·obtain ⟨a,b,_⟩:=Zlj l (Ql l) (Yr l);exact ⟨a,b⟩
theorem ZgA (l:Zv):(Q4 l).img=l.img∧(Q4 l).pads=l.pads:=by
 obtain ⟨a,b,_⟩:=ZaQ (QN l).toNat (doL l);exact ⟨a.trans (Zm7 l).1,b.trans (Zm7 l).2⟩
theorem Zlv: ∀(n:Nat) (l:Zv),(QK n l).1.img=l.img∧(QK n l).1.pads=l.pads
 |0,l=>⟨rfl,rfl⟩
 |n+1,l=>by
  unfold QK;split
  ·obtain ⟨a,b⟩:=Zlv n (Q4 l);exact ⟨a.trans (ZgA l).1,b.trans (ZgA l).2⟩
  ·exact ⟨rfl,rfl⟩
theorem ZpX {j:Nat} {l:Zv} (h:Q1 l=false):QK (j+1) l=(l,0):=by
 show (if Q1 l then _ else _)=_
 rw[h,Zc (by simp)]
theorem ZpY {j:Nat} {l:Zv} (h:Q1 l=true):QK (j+1) l=((QK j (Q4 l)).1,(QK j (Q4 l)).2+1):=by
 show (if Q1 l then _ else _)=_
 rw[h,Ze rfl]
theorem ZmB {l:Zv} (h:Q1 l=false):Ki l=l:=by unfold Ki;rw[h,Zc (by simp)]
theorem ZhI {l:Zv} (h:Q1 l=true):Ki l=Q4 l:=by unfold Ki;rw[h,Ze rfl]
theorem ZbP (n:Int): ∀(k i j:Nat) (l:Zv),Qa l→l.reads.length+j≤4398046511000→j<k→Qy n=i+j→
  n272_0 r320 r318 r319 k (n,()) (l.t,()) ((i:Int),())=some (Sum.inl (((i+(QK j l).2:Nat):Int),()),((QK j l).1.t,()))
 |0,_,_,_,_,_,h,_=>absurd h (by omega)
 |k+1,i,j,l,h,hr,hk,hm=>by
  have hb:=K7 n;show (bif ltI (i:Int) (mnI n 3000)then (r320 (l.t,())).bind _ else some (Sum.inl ((i:Int),()),(l.t,())))=_
  cases j with
  |zero=>
   rw[Vu,Zx (by unfold Qy at hm;omega),Zd];rfl
  |succ j=>
   rw[Vu,Zk (by unfold Qy at hm;omega),Zb];refine Za (Zkf l h (by omega)) ?_;show (bif !Q1 l then _ else _)=_
   cases hst:Q1 l with
   |false=>
    rw[ZpX hst,ZmB hst,QF,Zb];rfl
   |true=>
    rw[ZpY hst,ZhI hst,ZK,Zd];obtain ⟨a,_,_,d⟩:=ZkD h hst;have ih:=ZbP n k (i+1) j (Q4 l) a (by omega) (by omega) (by omega);have ew:wI ((i:Int)+1)=((i+1:Nat):Int):=by rw[Zt (by omega) (by omega)];omega
    rw[show i+1+(QK j (Q4 l)).2=i+((QK j (Q4 l)).2+1) by omega,←ew]at ih;obtain ⟨g1,g2⟩:=ZgA l;show _=some (Sum.inl (((i+((QK j (Q4 l)).2+1):Nat):Int),()),((QK j (Q4 l)).1.t,()));generalize QK j (Q4 l)=z at ih⊢;generalize Q4 l=l' at ih g1 g2⊢;obtain ⟨img,pads,mem,cpu,ppu,apu,pad,nmi,st,fr,sm,rd⟩:=l';have g1:img=l.img:=g1;have g2:pads=l.pads:=g2;subst g1 g2;exact ih
theorem ZbS (n:Int) (z:Tup Xn): ∀(k i j:Nat) (l:Zv),Qa l→l.reads.length+j≤4398046511000→j<k→Qy n=i+j→
  n276_0 r323 r325 r324 r104 k (n,()) (z,(l.t,())) ((i:Int),())=some (Sum.inl (((i+(QK j l).2:Nat):Int),()),(z,((QK j l).1.t,())))∨
  (∃y,n276_0 r323 r325 r324 r104 k (n,()) (z,(l.t,())) ((i:Int),())=some (Sum.inr (((i+(QK j l).2:Nat):Int),()),((QK j l).1.t,(y,()))))
 |0,_,_,_,_,_,h,_=>absurd h (by omega)
 |k+1,i,j,l,h,hr,hk,hm=>by
  have hb:=K7 n;have e0: ∃D:Tup Xn,n276_0 r323 r325 r324 r104 (k+1) (n,()) (z,(l.t,())) ((i:Int),())=bif ltI (i:Int) (mnI n 3000)then (r325 (l.t,())).bind (fun r1=>
    bif (!r1.1.2.1)then (some ((Sum.inr ((i:Int),())),(l.t,(D,()))))else n276_0 r323 r325 r324 r104 k (n,()) (z,(r1.1.1,())) ((wI ((i:Int)+(1:Int))),()))else some (Sum.inl ((i:Int),()),(z,(l.t,()))):=
   ⟨_,Za (Zec n) rfl⟩
  obtain ⟨D,e0⟩:=e0;rw[e0];cases j with
  |zero=>
   rw[Vu,Zx (by unfold Qy at hm;omega),Zd];exact .inl rfl
  |succ j=>
   rw[Vu,Zk (by unfold Qy at hm;omega),Zb,Zgu l h (by omega),Zo];show (bif !Q1 l then _ else _)=_∨ ∃y,(bif !Q1 l then _ else _)=_
   cases hst:Q1 l with
   |false=>
    rw[ZpX hst,QF,Zb];exact .inr ⟨D,rfl⟩
   |true=>
    rw[ZpY hst,ZhI hst,ZK,Zd];obtain ⟨a,_,_,d⟩:=ZkD h hst;have ih:=ZbS n z k (i+1) j (Q4 l) a (by omega) (by omega) (by omega);have ew:wI ((i:Int)+1)=((i+1:Nat):Int):=by rw[Zt (by omega) (by omega)];omega
    rw[show i+1+(QK j (Q4 l)).2=i+((QK j (Q4 l)).2+1) by omega,←ew]at ih;exact ih
def V5 (l:Zv) (n:Int):Tup Xn×Int:=if Xx l then ((QK (Qy n) l).1.t,((QK (Qy n) l).2:Int))else (Zmh,0)
theorem Zib (l:Zv) (n:Int) (hs:YQ l.t) (hr:l.reads.length≤1048576):r272 (l.t,(n,()))=some (((V5 l n).1,((V5 l n).2,())),()):=by
 have hb:=K7 n;unfold r272 m272 V5;refine Za (Zdh l hs) ?_;show (bif !Xx l then _ else _)=_
 cases ho:Xx l with
 |false=>rfl
 |true=>
  have h:=Zam.1 ho;rw[ZK,Zd,Ze rfl];refine Za (ZlS l hs) ?_;have k:=ZbP n fuel 0 (Qy n) l h (by omega) (by have:=Z6;omega) (by omega);simp only[Int.natCast_zero,Nat.zero_add]at k;refine Za k ?_;obtain ⟨g1,g2⟩:=Zlv (Qy n) l;generalize QK (Qy n) l=d at g1 g2⊢;obtain ⟨⟨img,pads,mem,cpu,ppu,apu,pad,nmi,st,fr,sm,rd⟩,m⟩:=d;have g1:img=l.img:=g1;have g2:pads=l.pads:=g2;subst g1 g2;rfl
theorem Zit (l:Zv) (n:Int) (hs:YQ l.t) (hr:l.reads.length≤1048576):r276 (l.t,(n,()))=some (((V5 l n).1,((V5 l n).2,())),()):=by
 have hb:=K7 n;unfold r276 m276 V5;refine Za (ZbI l hs) ?_;show (bif !Xx l then _ else _)=_
 cases ho:Xx l with
 |false=>rfl
 |true=>
  have h:=Zam.1 ho;rw[ZK,Zd,Ze rfl];refine Za (ZfS l hs) ?_;have k:=ZbS n Zmh fuel 0 (Qy n) l h (by omega) (by have:=Z6;omega) (by omega);simp only[Int.natCast_zero,Nat.zero_add]at k;rcases k with k| ⟨y,k⟩
  ·exact Za k rfl
  ·exact Za k rfl
theorem Zk9:YQ Zmh:=⟨⟨by decide,(fun l hl=>by cases hl),by decide⟩,by decide,by decide,⟨by decide,by decide⟩,⟨by decide,(fun l hl=>by cases hl),by decide⟩,by decide,by decide⟩
theorem Zmi {l:Zv} (hr:l.reads.length≤1048576) (n:Int):YQ (V5 l n).1:=by
 unfold V5;split
 ·rename_i ho;obtain ⟨a,b,c,d⟩:=ZpW (n:=Qy n) (Zam.1 ho);have:=K7 n;exact a.s (by omega)
 ·exact Zk9
def Jb:ZF:=⟨List.replicate 512 0,0⟩
def WM (f:List (List Int)):Zp:=⟨0,0,255,Ve f Jb 65532,false,false,false,true⟩
def Y5 (f:List (List Int)) (p:List Int):Zv:=⟨f,p,Jb,WM f,⟨0,0,0,0,0,false,List.replicate 16 0,[]⟩,⟨0,0,0,0,0,false,false⟩,⟨false,0⟩,false,0,[],[],[]⟩
theorem Ze0 {f:List (List Int)} (h:Yn f):Jz f Jb:=
 ⟨h,⟨by show (List.replicate 512 (0:Int)).length=512;exact List.length_replicate,fun n hn=>by have:=List.eq_of_mem_replicate hn;omega⟩,by show (0:Int)≤0;decide,by have:=h.lo;show (0:Int)< (f.length:Int);omega⟩
theorem Zlg:JI ⟨0,0,0,0,0,false,List.replicate 16 0,[]⟩:=
 ⟨by decide,by decide,by decide,by decide,by decide,by decide,fun n hn=>by have:=List.eq_of_mem_replicate hn;omega,by decide,fun n hn=>by cases hn⟩
theorem Zld:Yl ⟨0,0,0,0,0,false,false⟩:=⟨by decide,by decide,by decide,by decide,by decide⟩
theorem Zle (f:List (List Int)):ZM (WM f):=
 ⟨by show (0:Int)≤0∧(0:Int)≤255;decide,by show (0:Int)≤0∧(0:Int)≤255;decide,by show (0:Int)≤255∧(255:Int)≤255;decide,ZoA _ _ _⟩
theorem Zlf {f:List (List Int)} {p:List Int} (h:Yn f) (hp:YL p):Qa (Y5 f p):=
 ⟨Ze0 h,hp,Zle f,Zlg,Zld,by show (0:Int)≤0∧(0:Int)≤255;decide,rfl,by show (0:Int)≤0;decide,by show (0:Int)≤0;decide,(fun l hl=>by cases hl),
  by show ((0:Nat):Int)=YF 0;decide,by show ((0:Nat):Int)=0/16;decide⟩
theorem Zdf (f:List (List Int)) (h:Yn f):r54 ((f,()),())=some (((WM f).t,()),()):=by
 have hm:=Ze0 h;have k1:=ZfL f Jb 65532 hm;have k2:=ZfL f Jb 65533 hm;unfold r54 m54;refine Za (y:=((Jb.t,()),())) rfl ?_;have kv:r111 ((f,()),(Jb.t,((65532:Int),())))=some ((Ve f Jb 65532,()),()):=by
  unfold r111 m111;exact Za k1 (Za k2 (Za (Zak (ZQ f Jb 65532,(ZQ f Jb 65533,()))) rfl))
 exact Za kv rfl
theorem ZdI (f:List (List Int)) (h:Yn f):r83 ((f,()),())=some (((WM f).t,()),()):=by
 have hm:=Ze0 h;have k1:=Zao f Jb 65532 hm;have k2:=Zao f Jb 65533 hm;unfold r83 m83;refine Za (y:=((Jb.t,()),())) rfl ?_;exact Za k1 (Za k2 (Za (ZaP (ZQ f Jb 65532,(ZQ f Jb 65533,()))) rfl))
theorem ZgR (f:List (List Int)) (p:List Int) (h:Yn f) (hp:YL p):r271 ((f,()),(p,()))=some (((Y5 f p).t,(true,())),()):=by
 have hP:=Zlf h hp;have hs:=Zbj hP (by show 0≤_;omega);have hl:=hp.len;unfold r271 m271;refine Za (ZaR f h.small) (Za (Xh p (by omega)) (Za (y:=((Jb.t,()),())) rfl (Za (Zdf f h) (Za (y:=(((Y5 f p).ppu.t,()),())) rfl (Za (Zdh (Y5 f p) hs) ?_)))));show (bif !Xx (Y5 f p)then _ else _)=_
 rw[Zam.2 hP,ZK,Zd];rfl
theorem Zg0 (f:List (List Int)) (p:List Int) (h:Yn f) (hp:YL p):r275 ((f,()),(p,()))=some (((Y5 f p).t,(true,())),()):=by
 have hP:=Zlf h hp;have hs:=Zbj hP (by show 0≤_;omega);have hl:=hp.len;unfold r275 m275;refine Za (Zal f h.small) ?_;show (bif leN (0+p.length) (E.most .i)then _ else none)=_
 rw[ZP (show 0+p.length≤E.most .i by simp only[E.most];omega),Zb];refine Za (y:=((Jb.t,()),())) rfl (Za (ZdI f h) (Za (y:=(((Y5 f p).ppu.t,()),())) rfl (Za (ZbI (Y5 f p) hs) ?_)));show (bif !Xx (Y5 f p)then _ else _)=_
 rw[Zam.2 hP,ZK,Zd];rfl
def Jh (s:Zh):Bool:=Z8 s.t&&leI s.steps 3000
def Xr (s:Zh):Tup Xn:=if Jh s then (V5 (Y5 s.img s.pads) s.steps).1 else Zmh
theorem ZqZ (s:Zh):YQ (Xr s):=by
 unfold Xr;split
 ·exact Zmi (by show 0≤_;omega) _
 ·exact Zk9
theorem ZbB (s:Zh) (hs:ZX s.t):r207 (s.t,())=some ((Jh s,()),()):=by
 unfold r207 m207 Jh;refine Za (Vr s.t hs) ?_;show (bif Z8 s.t then _ else _)=_
 cases Z8 s.t<;>rfl
theorem ZfW (s:Zh) (hs:ZX s.t):r223 (s.t,())=some ((Jh s,()),()):=by
 unfold r223 m223 Jh;refine Za (Vc s.t hs) ?_;show (bif Z8 s.t then _ else _)=_
 cases Z8 s.t<;>rfl
theorem ZcT (s:Zh) (hs:ZX s.t):r208 (s.t,())=some ((Xr s,()),()):=by
 unfold r208 m208 Xr;refine Za (ZbB s hs) ?_;show (bif !Jh s then _ else _)=_
 cases hf:Jh s with
 |false=>rfl
 |true=>
  have hf2:=hf;unfold Jh at hf2;rw[Bool.and_eq_true]at hf2;have h:=JX.1 hf2.1;have hP:=Zlf h.mem.img h.pads;have hz:YQ (Y5 s.img s.pads).t:=Zbj hP (by show 0≤_;omega);rw[ZK,Zd,Ze rfl];exact Za (ZgR s.img s.pads h.mem.img h.pads) (Za (Zib (Y5 s.img s.pads) s.steps hz (by show 0≤_;omega)) rfl)
theorem Zc0 (s:Zh) (hs:ZX s.t):r224 (s.t,())=some ((Xr s,()),()):=by
 unfold r224 m224 Xr;refine Za (Vc s.t hs) ?_;show (bif !Z8 s.t then _ else bif ltI 3000 s.steps then _ else _)=_
 have e:ltI 3000 s.steps= !leI s.steps 3000:=Zkh _ _;rw[e];cases ho:Z8 s.t with
 |false=>
  have hf:Jh s=false:=by unfold Jh;rw[ho];rfl
  rw[hf];rfl
 |true=>
  cases hl:leI s.steps 3000 with
  |false=>
   have hf:Jh s=false:=by unfold Jh;rw[ho,hl];rfl
   rw[hf];rfl
  |true=>
   have hf:Jh s=true:=by unfold Jh;rw[ho,hl];rfl
   have h:=JX.1 ho;have hP:=Zlf h.mem.img h.pads;have hz:YQ (Y5 s.img s.pads).t:=Zbj hP (by show 0≤_;omega);rw[hf,ZK,Zd,Zd,Ze rfl];exact Za (Zg0 s.img s.pads h.mem.img h.pads) (Za (Zit (Y5 s.img s.pads) s.steps hz (by show 0≤_;omega)) rfl)
def Wg (s:Zh):Bool:=Jh s&&XZ (UC s.t) (J1 (Xr s))
theorem Zjk {s:Zh} (hs:ZX s.t):UD (UC s.t):=by
 obtain ⟨h1,h2,h3,h4,h5,h6⟩:=hs;exact ⟨h5.2.2,h6.2,h4⟩
theorem ZeP (s:Zh) (hs:ZX s.t):r138 (s.t,())=some ((Wg s,()),()):=by
 unfold r138 m138 Wg;refine Za (ZbB s hs) ?_;show (bif Jh s then _ else _)=_
 cases Jh s with
 |false=>rfl
 |true=>exact Za (ZeC s.t hs) (Za (ZcT s hs) (Za (Zia (UC s.t) (J1 (Xr s)) (Zjk hs)) rfl))
theorem ZeT (s:Zh) (hs:ZX s.t):r163 (s.t,())=some ((Wg s,()),()):=by
 unfold r163 m163 Wg;refine Za (ZfW s hs) ?_;show (bif Jh s then _ else _)=_
 cases Jh s with
 |false=>rfl
 |true=>exact Za (ZeK s.t hs) (Za (Zc0 s hs) (Za (ZbG (UC s.t) (J1 (Xr s)) (Zjk hs)) rfl))
theorem Zey {s:Tup QL} (h:ZX s):YQ (VV s):=by
 obtain ⟨h1,h2,h3,h4,h5,h6⟩:=h;unfold VV;split
 ·exact ⟨h1,h2,h3,h5.1,h5.2.2,h6.2,h4⟩
 ·exact ⟨⟨by decide,(fun l hl=>by cases hl),by decide⟩,by decide,by decide,⟨by decide,by decide⟩,⟨by decide,(fun l hl=>by cases hl),by decide⟩,by decide,by decide⟩
theorem Zgt (a b:Tup Xn) (h:YQ a) (hb:YQ b):r228 (a,(b,()))=some ((Zla a b,()),()):=by
 unfold r228 m228;obtain ⟨_,_,h3,h4,h5⟩:=h;simp only[Zel (JN a).1 (JN b).1 h3,Zmz (Y3 a) (Y3 b) h4,ZkB (J1 a) (J1 b) h5 hb.2.2.2.2,Zo,Q8];show some ((decide ((JN a).1=(JN b).1)&&(eqI (JN a).2.1 (JN b).2.1&&(Wx (Kz a) (Kz b)&&(ZnR (Y3 a) (Y3 b)&&(Zp6 (Uy a) (Uy b)&&(Vy (Xw a) (Xw b)&&((a.2.2.2.2.2.2.2.2.2.2.2.2.2.2.2.2.2.2.2.2.2.2.2.2.2.2.2.2.2.1==b.2.2.2.2.2.2.2.2.2.2.2.2.2.2.2.2.2.2.2.2.2.2.2.2.2.2.2.2.2.1)&&
  (eqI a.2.2.2.2.2.2.2.2.2.2.2.2.2.2.2.2.2.2.2.2.2.2.2.2.2.2.2.2.2.2.1 b.2.2.2.2.2.2.2.2.2.2.2.2.2.2.2.2.2.2.2.2.2.2.2.2.2.2.2.2.2.2.1&&V7 (J1 a) (J1 b)))))))),()),())=_
 unfold Zla Uz;generalize decide ((JN a).1=(JN b).1)=x1;generalize eqI (JN a).2.1 (JN b).2.1=x2;generalize Wx (Kz a) (Kz b)=x3;generalize ZnR (Y3 a) (Y3 b)=x4;generalize Zp6 (Uy a) (Uy b)=x5;generalize Vy (Xw a) (Xw b)=x6;generalize V7 (J1 a) (J1 b)=x7;cases x1<;>cases x2<;>cases x3<;>cases x4<;>cases x5<;>cases x6<;>simp
def V4 (s:Zh):Bool:=Jh s&&Zla (VV (Yw s).t) (Xr s)
theorem Zd6 (s:Zh) (hs:ZX s.t) (hr:ZL s):r139 (s.t,())=some ((V4 s,()),()):=by
 obtain ⟨ls,lr⟩:=ZeY hs hr;unfold r139 m139 V4;refine Za (ZbB s hs) ?_;show (bif Jh s then _ else _)=_
 cases Jh s with
 |false=>rfl
 |true=>exact Za (ZcR s hs hr) (Za (Zh9 (Yw s).t ls) (Za (ZcT s hs) (Za (ZfI (VV (Yw s).t) (Xr s) (Zey ls)) rfl)))
theorem Zep (s:Zh) (hs:ZX s.t) (hr:ZL s):r164 (s.t,())=some ((V4 s,()),()):=by
 obtain ⟨ls,lr⟩:=ZeY hs hr;unfold r164 m164 V4;refine Za (ZfW s hs) ?_;show (bif Jh s then _ else _)=_
 cases Jh s with
 |false=>rfl
 |true=>exact Za (ZbH s hs hr) (Za (Zis (Yw s).t ls) (Za (Zc0 s hs) (Za (Zgt (VV (Yw s).t) (Xr s) (Zey ls) (ZqZ s)) rfl)))
def ZrU (s:Zh) (g:Tup Xn):Bool:=Wx s.cpu.t (Kz g)&&(Vy s.pad.t (Xw g)&&((s.nmi==g.2.2.2.2.2.2.2.2.2.2.2.2.2.2.2.2.2.2.2.2.2.2.2.2.2.2.2.2.2.1)&&(eqI s.T (Y3 g).1&&(Uz s.mem.t (JN g)&&decide (s.reads=(J1 g).2.2.1)))))
def V3 (s:Zh):Bool:=Jh s&&ZrU s (Xr s)
theorem ZfH (s:Zh) (hs:ZX s.t):r137 (s.t,())=some ((V3 s,()),()):=by
 have hm:s.mem.t.1.length≤4398046511104:=hs.2.2.1;have hrd:s.reads.length≤4398046511104:=hs.2.2.2.1;unfold r137 m137 V3;refine Za (ZbB s hs) ?_;show (bif !Jh s then _ else _)=_
 cases Jh s with
 |false=>rfl
 |true=>
 rw[ZK,Zd,Bool.true_and];refine Za (ZcT s hs) ?_;generalize Xr s=g;have k1:=Zht s.mem.t (JN g) hm;have k2:=Up s.reads (J1 g).2.2.1 hrd;unfold ZrU;show (bif Wx s.cpu.t (Kz g)then (bif Vy s.pad.t (Xw g)then (bif s.nmi==g.2.2.2.2.2.2.2.2.2.2.2.2.2.2.2.2.2.2.2.2.2.2.2.2.2.2.2.2.2.1 then (bif eqI s.T (Y3 g).1 then _ else _)else _)else _)else _)=_
 cases Wx s.cpu.t (Kz g)with
 |false=>rfl
 |true=>
 cases Vy s.pad.t (Xw g)with
 |false=>rfl
 |true=>
 cases s.nmi==g.2.2.2.2.2.2.2.2.2.2.2.2.2.2.2.2.2.2.2.2.2.2.2.2.2.2.2.2.2.1 with
 |false=>rfl
 |true=>
 cases eqI s.T (Y3 g).1 with
 |false=>rfl
 |true=>
 rw[Zb,Zb,Zb,Zb,Bool.true_and,Bool.true_and,Bool.true_and,Bool.true_and];refine Za k1 ?_;show (bif Uz s.mem.t (JN g)then _ else _)=_
 cases Uz s.mem.t (JN g)with
 |false=>rfl
 |true=>exact Za k2 rfl
theorem Zgs (s:Zh) (hs:ZX s.t):r162 (s.t,())=some ((V3 s,()),()):=by
 have hm:s.mem.t.1.length≤4398046511104:=hs.2.2.1;have hrd:s.reads.length≤4398046511104:=hs.2.2.2.1;unfold r162 m162 V3;refine Za (ZfW s hs) ?_;show (bif !Jh s then _ else _)=_
 cases Jh s with
 |false=>rfl
 |true=>
 rw[ZK,Zd,Bool.true_and];refine Za (Zc0 s hs) ?_;generalize Xr s=g;have k1:=Zel s.mem.t.1 (JN g).1 hm;have k2:=Zel s.reads (J1 g).2.2.1 hrd;unfold ZrU Uz;show (bif Wx s.cpu.t (Kz g)then (bif eqI s.mem.t.2.1 (JN g).2.1 then _ else _)else _)=_
 cases Wx s.cpu.t (Kz g)with
 |false=>rfl
 |true=>
 cases eqI s.mem.t.2.1 (JN g).2.1 with
 |false=>
  show some ((false,()),())=some ((Vy s.pad.t (Xw g)&&(_&&(_&&false)),()),());rw[Bool.and_false,Bool.and_false,Bool.and_false]
 |true=>
 rw[Zb,Zb,Bool.true_and,Bool.true_and];refine Za k1 ?_;show (bif decide (s.mem.t.1=(JN g).1)then (bif Vy s.pad.t (Xw g)then (bif s.nmi==g.2.2.2.2.2.2.2.2.2.2.2.2.2.2.2.2.2.2.2.2.2.2.2.2.2.2.2.2.2.1 then _ else _)else _)else _)=_
 cases decide (s.mem.t.1=(JN g).1)with
 |false=>
  show some ((false,()),())=some ((Vy s.pad.t (Xw g)&&(_&&(_&&false)),()),());rw[Bool.and_false,Bool.and_false,Bool.and_false]
 |true=>
 cases Vy s.pad.t (Xw g)with
 |false=>rfl
 |true=>
 cases s.nmi==g.2.2.2.2.2.2.2.2.2.2.2.2.2.2.2.2.2.2.2.2.2.2.2.2.2.2.2.2.2.1 with
 |false=>rfl
 |true=>
 rw[Zb,Zb,Zb,Bool.true_and,Bool.true_and];refine Za k2 ?_;show (bif decide (s.reads=(J1 g).2.2.1)then (some ((eqI s.T (Y3 g).1,()),()))else some ((false,()),()))=_
 cases decide (s.reads=(J1 g).2.2.1)with
 |false=>
  show some ((false,()),())=some ((_&&false,()),());rw[Bool.and_false]
 |true=>
  show some ((_,()),())=some ((_&&true,()),());rw[Bool.and_true]
def WI (s:Zh):Bool:=V3 s&&(Wg s&&(V4 s&&ZiH s))
theorem ZfG (s:Zh) (hs:ZX s.t) (hr:ZL s):r78 (s.t,())=some ((WI s,()),()):=by
 unfold r78 m78 WI;refine Za (ZfH s hs) ?_;show (bif V3 s then _ else _)=_
 cases V3 s with
 |false=>rfl
 |true=>
 refine Za (ZeP s hs) ?_;show (bif Wg s then _ else _)=_
 cases Wg s with
 |false=>rfl
 |true=>
 refine Za (Zd6 s hs hr) ?_;show (bif V4 s then _ else _)=_
 cases V4 s with
 |false=>rfl
 |true=>exact Za (ZeO s hs hr) rfl
theorem Zgr (s:Zh) (hs:ZX s.t) (hr:ZL s):r97 (s.t,())=some ((WI s,()),()):=by
 unfold r97 m97 WI;refine Za (Zgs s hs) ?_;show (bif V3 s then _ else _)=_
 cases V3 s with
 |false=>rfl
 |true=>
 refine Za (ZeT s hs) ?_;show (bif Wg s then _ else _)=_
 cases Wg s with
 |false=>rfl
 |true=>
 refine Za (Zep s hs hr) ?_;show (bif V4 s then _ else _)=_
 cases V4 s with
 |false=>rfl
 |true=>exact Za (ZeS s hs hr) rfl

end Go.Proofs.YtcbdldlphpjmbaaGreatDoor.Plain
