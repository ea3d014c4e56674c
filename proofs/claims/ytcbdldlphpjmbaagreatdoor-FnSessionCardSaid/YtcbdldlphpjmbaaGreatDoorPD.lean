/- Plain laws of the printed functions: StepI, StepJ, PlayI, FairI. No condition beyond those that each lemma states. -/
import Derived.Test.YtcbdldlphpjmbaaGreatDoorPC
set_option linter.unusedVariables false
set_option linter.unusedSimpArgs false
namespace Go.Proofs.YtcbdldlphpjmbaaGreatDoor.Plain
open Go Go.Tev
def ZN (s:Zh):Prop:=s.reads.length≤4398046511000
theorem Zio (s:Zh) (b:Bool):r129 (s.t,(b,()))=some ((),((Jv s b).t,())):=rfl
theorem Zeg (s:Zh) (b:Bool):r233 (s.t,(b,()))=some (((Jv s b).t,()),()):=rfl
theorem ZjV (s:Zh) (a:Int) (h:ZA s) (hr:ZN s):r199 (s.t,(a,()))=some ((VI s a,()),((Yg s a).t,())):=by
 unfold ZN at hr;have hl:leN (s.reads.length+1) (E.most .i)=true:=ZI (by simp only[E.most];omega);unfold r199 m199 Yg VI;refine Za (WI (a,())) ?_;show (bif eqI (rgT a).1 2 then _ else bif eqI (rgT a).1 3 then _ else bif eqI (rgT a).1 4 then _ else bif eqI (rgT a).1 7 then _ else _)=_
 by_cases c2:(rgT a).1=2
 ·rw[Zn c2,Ze c2,Ze c2,Zb];refine Za (Zof s.pic.ppu h.pic.ppu (rgT a).2) ?_;obtain ⟨e1,e2⟩:=ZcE s.pic.ppu (rgT a).2;generalize Yf s.pic.ppu (rgT a).2=q at e1 e2⊢;obtain ⟨T,c,sc,ad,pal,bl,tb,ds⟩:=q;have e1:tb=s.pic.ppu.table:=e1;have e2:ds=s.pic.ppu.dots:=e2;subst e1 e2;show (bif leN (s.reads.length+1) (E.most .i)then _ else none)=_
  rw[hl];rfl
 rw[Zi c2,Zc c2,Zc c2,Zd];by_cases c3:(rgT a).1=3
 ·rw[Zn c3,Ze c3,Ze c3,Zb];refine Za (ZcK s.snd.apu h.snd.apu (rgT a).2) ?_;show (bif eqI (rgT a).2 2 then _ else _)=_
  by_cases a2:(rgT a).2=2
  ·rw[Zn a2,Ze a2,Zb];refine Za (Zio {s with snd:={s.snd with apu:=YW s.snd.apu (rgT a).2}} false) ?_
   show (bif leN (s.reads.length+1) (E.most .i)then _ else none)=_
   rw[hl];rfl
  ·rw[Zi a2,Zc a2];show (bif leN (s.reads.length+1) (E.most .i)then _ else none)=_
   rw[hl];rfl
 rw[Zi c3,Zc c3,Zc c3,Zd];by_cases c4:(rgT a).1=4
 ·rw[Zn c4,Ze c4,Ze c4,Zb];refine Za (ZcL s.pad s.pads s.T h.pads h.t) ?_;show (bif leN (s.reads.length+1) (E.most .i)then _ else none)=_
  rw[hl];rfl
 rw[Zi c4,Zc c4,Zc c4,Zd];by_cases c7:(rgT a).1=7
 ·have hz:ZR s.img s.mem a=0:=by
   unfold ZR;rw[Zc (by omega),Zc (by omega),Zc (by omega)]
  rw[Zn c7,hz];rfl
 ·rw[Zi c7,Zd];exact Za (V6 s.img s.mem a h.mem) rfl
theorem Zmq (s:Zh) (a:Int) (h:ZA s) (hr:ZN s):r234 (s.t,(a,()))=some (((Yg s a).t,(VI s a,())),()):=by
 unfold ZN at hr;have hl:leN (s.reads.length+1) (E.most .i)=true:=ZI (by simp only[E.most];omega);unfold r234 m234 Yg VI;refine Za (Wp (a,())) ?_;show (bif eqI (rgT a).1 2 then _ else bif eqI (rgT a).1 3 then _ else bif eqI (rgT a).1 4 then _ else _)=_
 by_cases c2:(rgT a).1=2
 ·rw[Zn c2,Ze c2,Ze c2,Zb];refine Za (ZcS s.pic.ppu h.pic.ppu (rgT a).2) ?_;show (bif leN (s.reads.length+1) (E.most .i)then _ else none)=_
  rw[hl];rfl
 rw[Zi c2,Zc c2,Zc c2,Zd];by_cases c3:(rgT a).1=3
 ·rw[Zn c3,Ze c3,Ze c3,Zb];refine Za (ZcP s.snd.apu h.snd.apu (rgT a).2) ?_;show (bif eqI (rgT a).2 2 then _ else _)=_
  by_cases a2:(rgT a).2=2
  ·rw[Zn a2,Ze a2,Zb];refine Za (Zeg {s with snd:={s.snd with apu:=YW s.snd.apu (rgT a).2}} false) ?_
   show (bif leN (s.reads.length+1) (E.most .i)then _ else none)=_
   rw[hl];rfl
  ·rw[Zi a2,Zc a2];show (bif leN (s.reads.length+1) (E.most .i)then _ else none)=_
   rw[hl];rfl
 rw[Zi c3,Zc c3,Zc c3,Zd];by_cases c4:(rgT a).1=4
 ·rw[Zn c4,Ze c4,Ze c4,Zb];refine Za (ZcR s.pad s.pads s.T h.pads h.t) ?_;show (bif leN (s.reads.length+1) (E.most .i)then _ else none)=_
  rw[hl];rfl
 rw[Zi c4,Zc c4,Zc c4,Zd];exact Za (Zci s.img s.mem a h.mem) rfl
theorem Zf7 {s:Zh} (h:ZA s):s.pic.list.length≤16∧s.snd.list.length≤16:=by
 have h1:=h.pic.ring.len;have h2:=h.pic.ring.c1;have h3:=h.snd.ring.len;have h4:=h.snd.ring.c1;omega
theorem ZiD (s:Zh) (a v:Int) (h:ZA s) (hv:0≤v∧v≤255):r200 (s.t,(a,(v,())))=some ((),((Yk s a v).t,())):=by
 obtain ⟨l1,l2⟩:=Zf7 h;have hl1:leN (s.pic.list.length+1) (E.most .t)=true:=ZI (by simp only[E.most];omega);have hl2:leN (s.snd.list.length+1) (E.most .t)=true:=ZI (by simp only[E.most];omega);have k:r242 (v,())=some ((v,()),()):=by
  rw[Xp (v,())];show some ((v%256,()),())=_;rw[show v%256=v by omega]
 unfold r200 m200 Yk;refine Za (WI (a,())) (Za k ?_);show (bif eqI (rgT a).1 2 then _ else bif eqI (rgT a).1 3 then _ else bif eqI (rgT a).1 4 then _ else bif eqI (rgT a).1 1 then _ else bif eqI (rgT a).1 5 then _ else bif eqI (rgT a).1 6 then _ else _)=_
 by_cases c2:(rgT a).1=2
 ·rw[Zn c2,Ze c2];show (bif leN (s.pic.list.length+1) (E.most .t)then (bif eqI (rgT a).2 0 then _ else _)else none)=_
  rw[hl1];by_cases a0:(rgT a).2=0
  ·rw[Zn a0,Ze a0];rfl
  ·rw[Zi a0,Zc a0];rfl
 rw[Zi c2,Zc c2,Zd];by_cases c3:(rgT a).1=3
 ·rw[Zn c3,Ze c3];show (bif leN (s.snd.list.length+1) (E.most .t)then (bif eqI (rgT a).2 3 then _ else bif eqI (rgT a).2 2 then (bif eqI (Int.tmod v 2) 0 then _ else _)else _)else none)=_
  rw[hl2,Zb,Qx hv.1];have kn:=Zio {s with snd:={s.snd with list:=s.snd.list++[(s.T,((rgT a).2,v))]}} false
  by_cases a3:(rgT a).2=3
  ·rw[Zn a3,Ze (.inl a3),Zb];exact Za kn rfl
  rw[Zi a3,Zd];by_cases a2:(rgT a).2=2
  ·rw[Zn a2];by_cases v2:v%2=0
   ·rw[Zb,Zn v2,Ze (.inr ⟨a2,v2⟩),Zb];exact Za kn rfl
   ·rw[Zi v2,Zc (by omega)];rfl
  ·rw[Zi a2,Zc (by omega)];rfl
 rw[Zi c3,Zc c3,Zd];by_cases c4:(rgT a).1=4
 ·rw[Zn c4,Ze c4,Zb];exact Za (Zb5 s.pad s.pads s.T v h.pads h.t) rfl
 rw[Zi c4,Zc c4,Zd];have kp:=ZfT s.img s.mem a v h.mem;by_cases c1:(rgT a).1=1
 ·rw[Zn c1,Zb];exact Za kp rfl
 rw[Zi c1,Zd];by_cases c5:(rgT a).1=5
 ·rw[Zn c5,Zb];exact Za kp rfl
 rw[Zi c5,Zd];by_cases c6:(rgT a).1=6
 ·rw[Zn c6,Zb];exact Za kp rfl
 ·rw[Zi c6,Zd];have e:KJ s.img s.mem a v=s.mem:=by
   unfold KJ;rw[Zc c1,Zc (by omega)]
  rw[e]
theorem Zkn (s:Zh) (a v:Int) (h:ZA s) (hv:0≤v∧v≤255):r235 (s.t,(a,(v,())))=some (((Yk s a v).t,()),()):=by
 obtain ⟨l1,l2⟩:=Zf7 h;have hl1:leN (s.pic.list.length+1) (E.most .t)=true:=ZI (by simp only[E.most];omega);have hl2:leN (s.snd.list.length+1) (E.most .t)=true:=ZI (by simp only[E.most];omega);unfold r235 m235 Yk;refine Za (Wp (a,())) ?_;show (bif eqI (rgT a).1 2 then _ else bif eqI (rgT a).1 3 then _ else bif eqI (rgT a).1 4 then _ else _)=_
 by_cases c2:(rgT a).1=2
 ·rw[Zn c2,Ze c2];show (bif leN (s.pic.list.length+1) (E.most .t)then (bif eqI (rgT a).2 0 then _ else _)else none)=_
  rw[hl1];by_cases a0:(rgT a).2=0
  ·rw[Zn a0,Ze a0];rfl
  ·rw[Zi a0,Zc a0];rfl
 rw[Zi c2,Zc c2,Zd];by_cases c3:(rgT a).1=3
 ·rw[Zn c3,Ze c3];show (bif leN (s.snd.list.length+1) (E.most .t)then (bif eqI (rgT a).2 3 then _ else bif eqI (rgT a).2 2 then (bif eqI (Int.tmod v 2) 0 then _ else _)else _)else none)=_
  rw[hl2,Zb,Qx hv.1];have kn:=Zeg {s with snd:={s.snd with list:=s.snd.list++[(s.T,((rgT a).2,v))]}} false
  by_cases a3:(rgT a).2=3
  ·rw[Zn a3,Ze (.inl a3),Zb];exact Za kn rfl
  rw[Zi a3,Zd];by_cases a2:(rgT a).2=2
  ·rw[Zn a2];by_cases v2:v%2=0
   ·rw[Zb,Zn v2,Ze (.inr ⟨a2,v2⟩),Zb];exact Za kn rfl
   ·rw[Zi v2,Zc (by omega)];rfl
  ·rw[Zi a2,Zc (by omega)];rfl
 rw[Zi c3,Zc c3,Zd];by_cases c4:(rgT a).1=4
 ·rw[Zn c4,Ze c4,Zb];exact Za (Zch s.pad s.pads s.T v h.pads h.t) rfl
 rw[Zi c4,Zc c4,Zd];exact Za (ZgE s.img s.mem a v h.mem) rfl
theorem Zb7 (s:Zh) (v:Int) (h:ZA s) (hv:65530≤v∧v≤65534):r130 (s.t,(v,()))=some ((),((UD s v).t,())):=by
 unfold r130 m130;have e:wI (v+1)=v+1:=Zr (by omega) (by omega);have k:=V6 s.img s.mem (v+1) h.mem;rw[←e]at k;refine Za (V6 s.img s.mem v h.mem) (Za k (Za (Zal (ZR s.img s.mem v,(ZR s.img s.mem (wI (v+1)),()))) (Za (Zk7 s.mem s.cpu (Xq (ZR s.img s.mem v) (ZR s.img s.mem (wI (v+1)))) h.mem.ram h.cpu) ?_)));rw[e];rfl
theorem ZhL (s:Zh) (a:Int):(Yg s a).pic.ppu.table=s.pic.ppu.table∧(Yg s a).pic.ppu.dots=s.pic.ppu.dots∧(Yg s a).pic.list=s.pic.list∧(Yg s a).pic.frames=s.pic.frames∧(Yg s a).snd.list=s.snd.list∧(Yg s a).snd.samples=s.snd.samples:=by
 obtain ⟨e1,e2⟩:=ZcE s.pic.ppu (rgT a).2;unfold Yg
 repeat' split
 all_goals first|exact ⟨e1,e2,rfl,rfl,rfl,rfl⟩|exact ⟨rfl,rfl,rfl,rfl,rfl,rfl⟩
theorem ZgP (s:Zh) (a v:Int):(Yk s a v).pic.ppu=s.pic.ppu∧(Yk s a v).pic.frames=s.pic.frames∧(Yk s a v).snd.samples=s.snd.samples∧(Yk s a v).snd.apu=s.snd.apu∧(Yk s a v).reads=s.reads:=by
 unfold Yk
 repeat' split
 all_goals exact ⟨rfl,rfl,rfl,rfl,rfl⟩
theorem ZnX (s:Zh) (h:ZiN s) (hr:ZN s):r132 (s.t,())=some ((Qs (opS s),()),((KH s).t,())):=by
 have hp:=h.p;unfold r132 m132 KH;refine Za (Zct s.img s.mem s.cpu.pc hp.mem hp.cpu.pc) (Za (ZaA (opS s) (JB s) s.cpu hp.cpu (Uk hp)) ?_);show (bif eqI (ZT (opS s)) 1 then _ else bif eqI (ZT (opS s)) 2 then _ else _)=_
 by_cases o1:ZT (opS s)=1
 ·rw[Zn o1,Ze o1,Zb];refine Za (ZjV s (ZV s) hp hr) ?_;have hv:=ZpG hp (ZV s);obtain ⟨⟨f1,f2,f3,f4,f5,f6⟩,f7,f8⟩:=ZkE s (ZV s);obtain ⟨g1,g2,g3,g4,g5,g6⟩:=ZhL s (ZV s);generalize VI s (ZV s)=v at hv⊢;generalize Yg s (ZV s)=s' at f1 f2 f3 f4 f5 f6 f7 f8 g1 g2 g3 g4 g5 g6⊢;obtain ⟨img,pads,mem,cpu,pad,T,nmi,ctrl,kn,ka,st,rd,⟨⟨pT,pc,ps,pa,pp,pb,ptb,pds⟩,pcap,pl,pf⟩,⟨sa,scap,sl,ss⟩⟩:=s';have f1:img=s.img:=f1;have f2:pads=s.pads:=f2;have f7:cpu=s.cpu:=f7;have f8:mem=s.mem:=f8;have g1:ptb=s.pic.ppu.table:=g1;have g2:pds=s.pic.ppu.dots:=g2;have g3:pl=s.pic.list:=g3;have g4:pf=s.pic.frames:=g4;have g5:sl=s.snd.list:=g5;have g6:ss=s.snd.samples:=g6;subst f1 f2 f7 f8 g1 g2 g3 g4 g5 g6;exact Za (Zd6 s.mem s.cpu (opS s) (JB s) v hp.mem.ram hp.cpu hv) (Za (Zaa (opS s,())) rfl)
 rw[Zi o1,Zc o1,Zd];by_cases o2:ZT (opS s)=2
 ·rw[Zn o2,Ze o2,Zb];have ev:Y1 (opS s) s.cpu.a=s.cpu.a%256:=by unfold Y1;rw[Ze o2]
  have kw:=ZiD s (ZV s) (s.cpu.a%256) hp (mod256 _);rw[←ev]at kw;refine Za kw ?_;rw[ev];have hq:=ZiK hp (mod256 s.cpu.a) (h.room o2) (h.room' o2);obtain ⟨⟨f1,f2,f3,f4,f5,f6⟩,f7⟩:=ZiL s (ZV s) (s.cpu.a%256);obtain ⟨g1,g2,g3,g4,g5⟩:=ZgP s (ZV s) (s.cpu.a%256);generalize Yk s (ZV s) (s.cpu.a%256)=s' at hq f1 f2 f3 f4 f5 f6 f7 g1 g2 g3 g4 g5⊢;have h1:=hq.mem.ram;have h2:=hq.cpu;clear hq;obtain ⟨img,pads,mem,cpu,pad,T,nmi,ctrl,kn,ka,st,rd,⟨pp,pcap,pl,pf⟩,⟨sa,scap,sl,ss⟩⟩:=s';have f1:img=s.img:=f1;have f2:pads=s.pads:=f2;have g1:pp=s.pic.ppu:=g1;have g2:pf=s.pic.frames:=g2;have g3:ss=s.snd.samples:=g3;have g4:sa=s.snd.apu:=g4;have g5:rd=s.reads:=g5;subst f1 f2 g1 g2 g3 g4 g5;exact Za (Zd6 mem cpu (opS s) (JB s) 0 h1 h2 (by decide)) (Za (Zaa (opS s,())) rfl)
 ·rw[Zi o2,Zc o2,Zd];have ev:Y1 (opS s) s.cpu.a=0:=by unfold Y1;rw[Zc o2]
  have k:=Zd6 s.mem s.cpu (opS s) (JB s) 0 hp.mem.ram hp.cpu (by decide);rw[←ev]at k;refine Za k (Za (Zaa (opS s,())) ?_);rw[ev];rfl
structure KS (s s':Zh):Prop where
 img:s'.img=s.img
 pads:s'.pads=s.pads
 table:s'.pic.ppu.table=s.pic.ppu.table
 dots:s'.pic.ppu.dots=s.pic.ppu.dots
 frames:s'.pic.frames=s.pic.frames
 samples:s'.snd.samples=s.snd.samples
theorem KS.rfl' (s:Zh):KS s s:=⟨rfl,rfl,rfl,rfl,rfl,rfl⟩
theorem Zgd (s:Zh):KS s (KH s):=by
 unfold KH;split
 ·obtain ⟨⟨f1,f2,_⟩,_⟩:=ZkE s (ZV s);obtain ⟨g1,g2,g3,g4,g5,g6⟩:=ZhL s (ZV s);exact ⟨f1,f2,g1,g2,g4,g6⟩
 split
 ·obtain ⟨⟨f1,f2,_⟩,_⟩:=ZiL s (ZV s) (s.cpu.a%256);obtain ⟨g1,g2,g3,g4,g5⟩:=ZgP s (ZV s) (s.cpu.a%256);refine ⟨f1,f2,?_,?_,g2,g3⟩
  ·show (Yk s (ZV s) (s.cpu.a%256)).pic.ppu.table=_;rw[g1]
  ·show (Yk s (ZV s) (s.cpu.a%256)).pic.ppu.dots=_;rw[g1]
 ·exact ⟨rfl,rfl,rfl,rfl,rfl,rfl⟩
theorem Zkp (s:Zh):KS s (ZQ s):=by
 unfold ZQ;split<;>exact ⟨rfl,rfl,rfl,rfl,rfl,rfl⟩
theorem Zmb (s:Zh):KS s (Yr s).1:=by
 unfold Yr;split
 ·exact ⟨rfl,rfl,rfl,rfl,rfl,rfl⟩
 split
 ·exact ⟨rfl,rfl,rfl,rfl,rfl,rfl⟩
 ·exact Zgd s
theorem KS.trans {a b c:Zh} (h:KS a b) (k:KS b c):KS a c:=⟨k.img.trans h.img,k.pads.trans h.pads,k.table.trans h.table,k.dots.trans h.dots,k.frames.trans h.frames,k.samples.trans h.samples⟩
theorem ZmR (s:Zh):KS s (Xu s):=by
 have h:=(Zkp s).trans (Zmb (ZQ s));exact ⟨h.img,h.pads,h.table,h.dots,h.frames,h.samples⟩
theorem Zm7 (t:Int):JZ t t=false:=Zw (by omega)
theorem Zfh (s:Zh) (hn:s.nmi=false):JU (ZQ s)=((ZQ s).known&& !s.cpu.i):=by
 unfold ZQ;cases hm:Yu s with
 |true=>
  rw[Ze rfl];unfold JU Jv;rw[show JZ s.T s.T=false from Zm7 _];rfl
 |false=>
  rw[Zc (by simp)];unfold Yu at hm;rw[hn]at hm;unfold JU;cases hi:s.cpu.i with
  |true=>simp
  |false=>
   rw[hi]at hm;have hb:JZ s.knownAt s.T=false:=by simpa using hm
   rw[hb];rfl
theorem ZdI {s:Zh} (h:ZA s) (hw:QU s=0) (hn:s.nmi=false) (ha:JU s=false):ZiN (ZQ s):=by
 have hL:=Ze3 h;obtain ⟨e1,e2,e3,e4,e5,e6,e7,e8,e9,e10⟩:=Zf5 s;have eop:opS (ZQ s)=opS s:=by unfold opS;rw[e1,e2,e3]
 have earg:JB (ZQ s)=JB s:=by unfold JB;rw[e1,e2,e3]
 have eadr:ZV (ZQ s)=ZV s:=by unfold ZV;rw[eop,earg,e3]
 unfold QU at hw;rw[hn,Zc (by simp)]at hw;split at hw
 ·omega
 rw[Zc (by rw[ha];simp)]at hw;split at hw
 ·omega
 split at hw
 ·omega
 split at hw
 ·omega
 rename_i h3;split at hw
 ·omega
 rename_i h4;exact ⟨hL,fun a b=>by rw[eop]at a;rw[eadr]at b;rw[e4];rcases Int.lt_or_le (s.pic.list.length:Int) s.pic.cap with h5|h5;exact h5;exact absurd ⟨a,b,h5⟩ h3,
  fun a b=>by rw[eop]at a;rw[eadr]at b;rw[e5];rcases Int.lt_or_le (s.snd.list.length:Int) s.snd.cap with h5|h5;exact h5;exact absurd ⟨a,b,h5⟩ h4⟩
theorem ZeB {s:Zh} (hw:QU s=0) (hq:s.nmi=true∨JU s=true):s.T+7≤20000:=by
 unfold QU at hw;cases hn:s.nmi with
 |true=>rw[hn,Ze rfl]at hw;exact ZaI hw
 |false=>
  rw[hn,Zc (by simp)]at hw;split at hw
  ·omega
  rcases hq with hq|hq
  ·rw[hn]at hq;cases hq
  ·rw[Ze hq]at hw;exact ZaI hw
theorem ZoT {s:Zh} (hw:QU s=0) (hn:s.nmi=false) (ha:JU s=false):s.T+Qs (opS s)≤20000:=by
 unfold QU at hw;rw[hn,Zc (by simp)]at hw;split at hw
 ·omega
 rw[Zc (by rw[ha];simp)]at hw;split at hw
 ·omega
 split at hw
 ·omega
 split at hw
 ·omega
 split at hw
 ·omega
 exact ZaI hw
theorem Zi3 (s:Zh) (n:Int) (ht:0≤s.T) (hn:0≤n) (htn:s.T+n≤20000) (h0:0≤s.steps) (h1:s.steps≤20000):
  (bif ltI 127 s.ctrl then (r133 (s.T,(wI (s.T+n),()))).bind (fun r=>some (((true,()):Bool×Unit),(({s with T:=wI (s.T+n),nmi:=r.1.1,steps:=wI (s.steps+1)}:Zh).t,())))
   else some ((true,()),(({s with T:=wI (s.T+n),nmi:=false,steps:=wI (s.steps+1)}:Zh).t,())))=some ((true,()),((Zr2 s.T (s,n)).t,())):=by
 rw[Zr (x:=s.T+n) (by omega) (by omega),Zr (x:=s.steps+1) (by omega) (by omega),ZgT s.T (s.T+n) (by omega) (by omega)];unfold Zr2;simp only;cases ltI 127 s.ctrl<;>rfl
theorem Zow (s:Zh) (h:ZA s) (hw:QU s≠0):r74 (s.t,())=some ((false,()),(s.t,())):=by
 unfold r74 m74;refine Za (ZkY s h) ?_;show (bif neI (QU s) 0 then _ else _)=_
 rw[QS hw];rfl
theorem Zox (s:Zh) (h:ZA s) (hr:ZN s) (hw:QU s=0):r74 (s.t,())=some ((true,()),((Xu s).t,())):=by
 have ht:=h.t;have hst:=h.steps;unfold r74 m74;refine Za (ZkY s h) ?_;show (bif neI (QU s) 0 then _ else _)=_
 rw[Ja hw,Zd];refine Za (ZhD s h) ?_;unfold Xu;cases hm:Yu s with
 |true=>
  have hl:ZQ s=Jv s s.snd.apu.irq:=by unfold ZQ;rw[hm,Ze rfl]
  have hn:s.nmi=false:=by
   unfold Yu at hm;cases hn:s.nmi with
   |true=>rw[hn]at hm;cases hm
   |false=>rfl
  have hL:ZA (Jv s s.snd.apu.irq):=hl▸Ze3 h;rw[hl,Zb];refine Za (Zio s s.snd.apu.irq) ?_;show (bif s.nmi then _ else _)=_
  rw[hn,Zd];refine Za (Zcv (Jv s s.snd.apu.irq) hL) ?_;have ea:=Zfh s hn;rw[hl]at ea;unfold Yr;rw[show (Jv s s.snd.apu.irq).nmi=false from hn,Zc (by simp),show (Jv s s.snd.apu.irq).cpu.i=s.cpu.i from rfl,←ea];have ek:JU s=JU (Jv s s.snd.apu.irq):=by rw[ea,←hl];exact (Zf6 s hn).symm
  cases ha:JU (Jv s s.snd.apu.irq)with
  |true=>
   rw[Ze rfl];rw[Zb];refine Za (Zb7 (Jv s s.snd.apu.irq) 65534 hL (by decide)) ?_;exact Zi3 (UD (Jv s s.snd.apu.irq) 65534) 7 ht.1 (by decide) (show s.T+7≤20000 from ZeB hw (.inr (ek.trans ha))) hst.1 (show s.steps≤20000 by omega)
  |false=>
   rw[Zc (by simp),Zd];have hq:=ZdI h hw hn (ek.trans ha);have hp:=(ZnT hq).2;have hrow:=Zgd (ZQ s);rw[hl]at hq hp hrow;refine Za (ZnX (Jv s s.snd.apu.irq) hq hr) ?_;have k1:s.T+Qs (opS (Jv s s.snd.apu.irq))≤20000:=ZoT hw hn (ek.trans ha);have k2:=ZcB (opS (Jv s s.snd.apu.irq));generalize Qs (opS (Jv s s.snd.apu.irq))=n at k1 k2⊢;obtain ⟨f1,f2,f3,f4,f5,f6⟩:=hp;obtain ⟨g1,g2,g3,g4,g5,g6⟩:=hrow;generalize KH (Jv s s.snd.apu.irq)=s' at f1 f2 f3 f4 f5 f6 g1 g2 g3 g4 g5 g6⊢;obtain ⟨img,pads,mem,cpu,pad,T,nmi,ctrl,kn,ka,st,rd,⟨⟨pT,pc,ps,pa,pp,pb,ptb,pds⟩,pcap,pl,pf⟩,⟨sa,scap,sl,ss⟩⟩:=s';have g1:img=s.img:=g1;have g2:pads=s.pads:=g2;have g3:ptb=s.pic.ppu.table:=g3;have g4:pds=s.pic.ppu.dots:=g4;have g5:pf=s.pic.frames:=g5;have g6:ss=s.snd.samples:=g6;have f3:T=s.T:=f3;have f5:st=s.steps:=f5;subst g1 g2 g3 g4 g5 g6 f3 f5;exact Zi3 ⟨s.img,s.pads,mem,cpu,pad,s.T,nmi,ctrl,kn,ka,s.steps,rd,⟨⟨pT,pc,ps,pa,pp,pb,s.pic.ppu.table,s.pic.ppu.dots⟩,pcap,pl,s.pic.frames⟩,⟨sa,scap,sl,s.snd.samples⟩⟩ n ht.1 (by omega) k1 hst.1 (show s.steps≤20000 by omega)
 |false=>
  have hl:ZQ s=s:=by unfold ZQ;rw[hm,Zc (by simp)]
  rw[hl,Zd];show (bif s.nmi then _ else _)=_
  unfold Yr;cases hn:s.nmi with
  |true=>
   rw[Ze rfl,Zb];have h2:ZA {s with nmi:=false}:=⟨h.mem,h.pads,h.cpu,h.pic,h.snd,h.pad,h.ctrl,h.t,h.known,h.steps,h.pt,h.st,h.pl,h.sl⟩
   refine Za (Zb7 {s with nmi:=false} 65530 h2 (by decide)) ?_
   exact Zi3 (UD {s with nmi:=false} 65530) 7 ht.1 (by decide) (show s.T+7≤20000 from ZeB hw (.inl hn)) hst.1 (show s.steps≤20000 by omega)
  |false=>
   rw[Zc (by simp),Zd];refine Za (Zcv s h) ?_;have ea:=Zfh s hn;rw[hl]at ea;rw[←ea];cases ha:JU s with
   |true=>
    rw[Ze rfl];rw[Zb];refine Za (Zb7 s 65534 h (by decide)) ?_;exact Zi3 (UD s 65534) 7 ht.1 (by decide) (show s.T+7≤20000 from ZeB hw (.inr ha)) hst.1 (show s.steps≤20000 by omega)
   |false=>
    rw[Zc (by simp),Zd];have hq:=ZdI h hw hn ha;have hp:=(ZnT hq).2;have hrow:=Zgd (ZQ s);rw[hl]at hq hp hrow;refine Za (ZnX s hq hr) ?_;have k1:s.T+Qs (opS s)≤20000:=ZoT hw hn ha;have k2:=ZcB (opS s);generalize Qs (opS s)=n at k1 k2⊢;obtain ⟨f1,f2,f3,f4,f5,f6⟩:=hp;obtain ⟨g1,g2,g3,g4,g5,g6⟩:=hrow;generalize KH s=s' at f1 f2 f3 f4 f5 f6 g1 g2 g3 g4 g5 g6⊢;obtain ⟨img,pads,mem,cpu,pad,T,nmi,ctrl,kn,ka,st,rd,⟨⟨pT,pc,ps,pa,pp,pb,ptb,pds⟩,pcap,pl,pf⟩,⟨sa,scap,sl,ss⟩⟩:=s';have g1:img=s.img:=g1;have g2:pads=s.pads:=g2;have g3:ptb=s.pic.ppu.table:=g3;have g4:pds=s.pic.ppu.dots:=g4;have g5:pf=s.pic.frames:=g5;have g6:ss=s.snd.samples:=g6;have f3:T=s.T:=f3;have f5:st=s.steps:=f5;subst g1 g2 g3 g4 g5 g6 f3 f5;exact Zi3 ⟨s.img,s.pads,mem,cpu,pad,s.T,nmi,ctrl,kn,ka,s.steps,rd,⟨⟨pT,pc,ps,pa,pp,pb,s.pic.ppu.table,s.pic.ppu.dots⟩,pcap,pl,s.pic.frames⟩,⟨sa,scap,sl,s.snd.samples⟩⟩ n ht.1 (by omega) k1 hst.1 (show s.steps≤20000 by omega)
theorem Zev (s:Zh) (h:ZiN s) (hr:ZN s):((r157 ((s.img,()),(s.mem.t,(s.cpu.pc,())))).bind fun r0=>(r158 (r0.1.1,(s.cpu.t,()))).bind fun r1=>
  bif eqI r1.1.1 1 then (r234 (s.t,(r1.1.2.1,()))).bind (fun r2=>(r236 ((r2.1.1.2.2.1,(r2.1.1.2.2.2.1,())),((r2.1.1.2.2.2.2.1,(r2.1.1.2.2.2.2.2.1,(r2.1.1.2.2.2.2.2.2.1,(r2.1.1.2.2.2.2.2.2.2.1,(r2.1.1.2.2.2.2.2.2.2.2.1,(r2.1.1.2.2.2.2.2.2.2.2.2.1,(r2.1.1.2.2.2.2.2.2.2.2.2.2.1,(r2.1.1.2.2.2.2.2.2.2.2.2.2.2.1,())))))))),(r0.1.1,(r2.1.2.1,()))))).bind fun r3=>
    (r161 (r0.1.1.1,())).bind fun r4=>some ((((r2.1.1.1,(r2.1.1.2.1,(r3.1.1.1,(r3.1.1.2.1,(r3.1.2.1.1,(r3.1.2.1.2.1,(r3.1.2.1.2.2.1,(r3.1.2.1.2.2.2.1,(r3.1.2.1.2.2.2.2.1,(r3.1.2.1.2.2.2.2.2.1,(r3.1.2.1.2.2.2.2.2.2.1,(r3.1.2.1.2.2.2.2.2.2.2.1,r2.1.1.2.2.2.2.2.2.2.2.2.2.2.2)))))))))))),r4.1),())))
  else bif eqI r1.1.1 2 then (r235 (s.t,r1.1.2)).bind (fun r2=>(r236 ((r2.1.1.2.2.1,(r2.1.1.2.2.2.1,())),((r2.1.1.2.2.2.2.1,(r2.1.1.2.2.2.2.2.1,(r2.1.1.2.2.2.2.2.2.1,(r2.1.1.2.2.2.2.2.2.2.1,(r2.1.1.2.2.2.2.2.2.2.2.1,(r2.1.1.2.2.2.2.2.2.2.2.2.1,(r2.1.1.2.2.2.2.2.2.2.2.2.2.1,(r2.1.1.2.2.2.2.2.2.2.2.2.2.2.1,())))))))),(r0.1.1,((0:Int),()))))).bind fun r3=>
    (r161 (r0.1.1.1,())).bind fun r4=>some ((((r2.1.1.1,(r2.1.1.2.1,(r3.1.1.1,(r3.1.1.2.1,(r3.1.2.1.1,(r3.1.2.1.2.1,(r3.1.2.1.2.2.1,(r3.1.2.1.2.2.2.1,(r3.1.2.1.2.2.2.2.1,(r3.1.2.1.2.2.2.2.2.1,(r3.1.2.1.2.2.2.2.2.2.1,(r3.1.2.1.2.2.2.2.2.2.2.1,r2.1.1.2.2.2.2.2.2.2.2.2.2.2.2)))))))))))),r4.1),())))
  else (r236 (s.mem.t,(s.cpu.t,(r0.1.1,((0:Int),()))))).bind fun r3=>
    (r161 (r0.1.1.1,())).bind fun r4=>some ((((s.img,(s.pads,(r3.1.1.1,(r3.1.1.2.1,(r3.1.2.1.1,(r3.1.2.1.2.1,(r3.1.2.1.2.2.1,(r3.1.2.1.2.2.2.1,(r3.1.2.1.2.2.2.2.1,(r3.1.2.1.2.2.2.2.2.1,(r3.1.2.1.2.2.2.2.2.2.1,(r3.1.2.1.2.2.2.2.2.2.2.1,s.t.2.2.2.2.2.2.2.2.2.2.2.2)))))))))))),r4.1),())))=some (((KH s).t,(Qs (opS s),())),()):=by
 have hp:=h.p;unfold KH;refine Za (Zax s.img s.mem s.cpu.pc hp.mem hp.cpu.pc) (Za (Zaj (opS s) (JB s) s.cpu hp.cpu (Uk hp)) ?_);show (bif eqI (ZT (opS s)) 1 then _ else bif eqI (ZT (opS s)) 2 then _ else _)=_
 by_cases o1:ZT (opS s)=1
 ·rw[Zn o1,Ze o1,Zb];refine Za (Zmq s (ZV s) hp hr) ?_;have hq:=Zoe hp (ZV s);exact Za (Zao (Yg s (ZV s)).mem (Yg s (ZV s)).cpu (opS s) (JB s) (VI s (ZV s)) hq.mem.ram hq.cpu) (Za (Zab (opS s,())) rfl)
 rw[Zi o1,Zc o1,Zd];by_cases o2:ZT (opS s)=2
 ·rw[Zn o2,Ze o2,Zb];have ev:Y1 (opS s) s.cpu.a=s.cpu.a%256:=by unfold Y1;rw[Ze o2]
  have kw:=Zkn s (ZV s) (s.cpu.a%256) hp (mod256 _);rw[←ev]at kw;refine Za kw ?_;rw[ev];have hq:=ZiK hp (mod256 s.cpu.a) (h.room o2) (h.room' o2);exact Za (Zao (Yk s (ZV s) (s.cpu.a%256)).mem (Yk s (ZV s) (s.cpu.a%256)).cpu (opS s) (JB s) 0 hq.mem.ram hq.cpu) (Za (Zab (opS s,())) rfl)
 ·rw[Zi o2,Zc o2,Zd];exact Za (Zao s.mem s.cpu (opS s) (JB s) 0 hp.mem.ram hp.cpu) (Za (Zab (opS s,())) rfl)
theorem Zpj (s:Zh) (h:ZA s) (hr:ZN s) (hw:QU s=0):r166 (s.t,())=some (((Yr (ZQ s)).1.t,((Yr (ZQ s)).2,())),()):=by
 unfold r166 m166;show (bif s.nmi then _ else bif !s.cpu.i then _ else _)=_
 cases hn:s.nmi with
 |true=>
  have hl:ZQ s=s:=by unfold ZQ Yu;rw[hn];rfl
  rw[hl,Zb];unfold Yr;rw[hn,Ze rfl];exact Za (Zaw s.img s.mem s.cpu 65530 h.mem h.cpu (by decide)) rfl
 |false=>
  rw[Zd];have ea:=Zfh s hn;cases hi:s.cpu.i with
  |true=>
   have hm:Yu s=false:=by unfold Yu;rw[hi];simp
   have hl:ZQ s=s:=by unfold ZQ;rw[hm,Zc (by simp)]
   rw[hl]at ea⊢;unfold Yr;rw[hn,Zc (by simp),hi,show (s.known&& !true)=false by simp,Zc (by simp),show (!true)=false from rfl,Zd];have ha:JU s=false:=by rw[ea,hi];simp
   have hq:=ZdI h hw hn ha;rw[hl]at hq;exact Zev s hq hr
  |false=>
   rw[show (!false)=true from rfl,Zb];refine Za (ZbK _ _ (ZfY h) h.t) ?_;show (bif JZ s.knownAt s.T then _ else _)=_
   cases hb:JZ s.knownAt s.T with
   |true=>
    have hm:Yu s=true:=by unfold Yu;rw[hn,hi,hb];rfl
    have hl:ZQ s=Jv s s.snd.apu.irq:=by unfold ZQ;rw[hm,Ze rfl]
    have hL:ZA (Jv s s.snd.apu.irq):=hl▸Ze3 h;rw[hl]at ea⊢;rw[Zb];refine Za (Zeg s s.snd.apu.irq) ?_;show (bif s.snd.apu.irq then _ else _)=_
    unfold Yr;rw[show (Jv s s.snd.apu.irq).nmi=false from hn,Zc (by simp),show (Jv s s.snd.apu.irq).cpu.i=false from hi,show ((Jv s s.snd.apu.irq).known&& !false)=s.snd.apu.irq by simp[Jv]];cases hk:s.snd.apu.irq with
    |true=>
     rw[Zb,Ze rfl];exact Za (Zaw s.img s.mem s.cpu 65534 h.mem h.cpu (by decide)) rfl
    |false=>
     rw[Zd,Zc (by simp)];rw[hk]at hl hL ea;have ha:JU s=false:=by unfold JU;rw[hb,Ze rfl,hk];rfl
     have hq:=ZdI h hw hn ha;rw[hl]at hq;exact Zev (Jv s false) hq hr
   |false=>
    have hm:Yu s=false:=by unfold Yu;rw[hn,hi,hb];rfl
    have hl:ZQ s=s:=by unfold ZQ;rw[hm,Zc (by simp)]
    rw[hl]at ea⊢;rw[Zd];show (bif s.known then _ else _)=_
    unfold Yr;rw[hn,Zc (by simp),hi,show (s.known&& !false)=s.known by simp];cases hk:s.known with
    |true=>
     rw[Zb,Ze rfl];exact Za (Zaw s.img s.mem s.cpu 65534 h.mem h.cpu (by decide)) rfl
    |false=>
     rw[Zd,Zc (by simp)];have ha:JU s=false:=by rw[ea,hk];rfl
     have hq:=ZdI h hw hn ha;rw[hl]at hq;exact Zev s hq hr
theorem Zcy (s:Zh) (h:ZA s) (hr:ZN s):r35 (s.t,())=some ((s.t,()),()):=by
 unfold ZN at hr;have h4:=h.mem.ram.len;have h5:=h.pads.len;have l1:leN (0+s.pads.length) (E.most .i)=true:=ZI (by simp only[E.most];omega);have l2:leN (0+s.reads.length) (E.most .i)=true:=ZI (by simp only[E.most];omega);unfold r35 m35;refine Za (Zam s.img h.mem.img.small) ?_;show (bif leN (0+s.pads.length) (E.most .i)then _ else none)=_
 rw[l1,Zb];refine Za (Zdw s.mem h4) ?_;show (bif leN (0+s.reads.length) (E.most .i)then _ else none)=_
 rw[l2,Zb];exact Za (Zdt s.pic h.pic) (Za (Zf2 s.snd h.snd) rfl)
theorem Zfs (s:Zh) (h:ZA s) (hr:ZN s):r25 (s.t,())=some ((s.t,()),()):=Zae s.t (h.s (by unfold ZN at hr;omega))
theorem Zik (s:Zh) (h:ZA s) (hr:ZN s):r24 (s.t,())=some ((true,()),()):=by
 rw[Vt s.t (h.s (by unfold ZN at hr;omega)),JX.2 h]
theorem ZdS (s:Zh) (h:ZA s) (hr:ZN s):r36 (s.t,())=some ((true,()),()):=by
 rw[Vf s.t (h.s (by unfold ZN at hr;omega)),JX.2 h]
def QJ (s:Zh):Zh:=if QU s=0 then Xu s else s
def XM (s:Zh):Bool:=decide (QU s=0)
theorem ZcQ (s:Zh) (h:ZA s) (hr:ZN s):r98 (s.t,())=some (((QJ s).t,(XM s,())),()):=by
 have ht:=h.t;have hst:=h.steps;unfold r98 m98 QJ XM;refine Za (ZdS s h hr) (Za (Zeh s h) ?_);show (bif neI (QU s) 0 then _ else _)=_
 by_cases hw:QU s=0
 ·rw[Ja hw,Zd,Ze hw,ZB hw];refine Za (Zcy s h hr) (Za (Zpj s h hr hw) ?_);unfold Xu Zr2;obtain ⟨p,hstep,_,h5,h6,_⟩:=Zov h hw;have p:=p.t;have e1:(Xu s).T=s.T+(Yr (ZQ s)).2:=rfl;rw[e1]at p h5 h6;have w1:wI (s.T+(Yr (ZQ s)).2)=s.T+(Yr (ZQ s)).2:=Zr (by omega) (by omega);have w2:wI (s.steps+1)=s.steps+1:=Zr (by omega) (by omega);have e2:(Yr (ZQ s)).1.steps=s.steps:=by
   have e3:(Yr (ZQ s)).1.steps+1=s.steps+1:=hstep;omega
  rw[e2];have kb:=Zg3 s.T (s.T+(Yr (ZQ s)).2) ht p;rw[←w1]at kb;generalize Yr (ZQ s)=d at w1 kb e2⊢;show (bif ltI 127 d.1.ctrl then (r167 (s.T,(wI (s.T+d.2),()))).bind (fun r=>some (((({d.1 with T:=wI (s.T+d.2),nmi:=r.1.1,steps:=wI (s.steps+1)}:Zh).t,(true,())),()):(Tup QM×Bool×Unit)×Unit))
   else some ((({d.1 with T:=wI (s.T+d.2),nmi:=false,steps:=wI (s.steps+1)}:Zh).t,(true,())),()))=_
  rw[kb,w1,w2];cases ltI 127 d.1.ctrl<;>rfl
 ·rw[QS hw,Zb,Zc hw,Zw hw];exact Za (Zcy s h hr) rfl
theorem Zex (s:Zh) (h:ZA s) (hr:ZN s):r74 (s.t,())=some ((XM s,()),((QJ s).t,())):=by
 unfold QJ XM;by_cases hw:QU s=0
 ·rw[Ze hw,ZB hw];exact Zox s h hr hw
 ·rw[Zc hw,Zw hw];exact Zow s h hw
theorem UX (s:Zh):KS s (QJ s):=by
 unfold QJ;split
 ·exact ZmR s
 ·exact .rfl' s
def Jm (s:Zh) (who:Int):Zh:=(Wb s who).getD s
def J3 (s:Zh) (who:Int):Bool:=(Wb s who).isSome
theorem ZhJ (s:Zh):Jm s 0=QJ s∧J3 s 0=XM s:=by
 unfold Jm J3 Wb QJ XM;rw[Ze rfl];by_cases hw:QU s=0
 ·rw[Ze hw,Ze hw,ZB hw];exact ⟨rfl,rfl⟩
 ·rw[Zc hw,Zc hw,Zw hw];exact ⟨rfl,rfl⟩
theorem Zjy (s:Zh):Jm s 1={s with pic:=(Jn s.pic s.T).getD s.pic}∧J3 s 1=(Jn s.pic s.T).isSome:=by
 unfold Jm J3 Wb;rw[Zc (by decide),Ze rfl];cases Jn s.pic s.T<;>exact ⟨rfl,rfl⟩
theorem Zjz (s:Zh):Jm s 2={s with snd:=(Jo s.snd s.T).getD s.snd}∧J3 s 2=(Jo s.snd s.T).isSome:=by
 unfold Jm J3 Wb;rw[Zc (by decide),Zc (by decide),Ze rfl];cases Jo s.snd s.T<;>exact ⟨rfl,rfl⟩
theorem ZjA (s:Zh) {who:Int} (h0:who≠0) (h1:who≠1) (h2:who≠2):Jm s who=s∧J3 s who=false:=by
 unfold Jm J3 Wb;rw[Zc h0,Zc h1,Zc h2];exact ⟨rfl,rfl⟩
theorem Zjx {s:Zh} (h:ZA s) (who:Int):ZA (Jm s who)∧(Jm s who).reads.length≤s.reads.length+1:=by
 unfold Jm;cases hp:Wb s who with
 |none=>exact ⟨h,Nat.le_succ _⟩
 |some v=>exact ZqZ h hp
theorem ZgF {s:Zh} (h:ZA s):ZA (QJ s)∧(QJ s).reads.length≤s.reads.length+1:=by
 rw[←(ZhJ s).1];exact Zjx h 0
theorem Zq0 (s:Zh) (who:Int) (h:ZA s) (hr:ZN s):r122 (s.t,(who,()))=some ((J3 s who,()),((Jm s who).t,())):=by
 unfold r122 m122;show (bif eqI who 0 then _ else bif eqI who 1 then _ else bif eqI who 2 then _ else _)=_
 by_cases c0:who=0
 ·subst c0;rw[(ZhJ s).1,(ZhJ s).2,Zn rfl,Zb];refine Za (Zex s h hr) ?_;obtain ⟨g1,g2,g3,g4,g5,g6⟩:=UX s;generalize QJ s=s' at g1 g2 g3 g4 g5 g6⊢;obtain ⟨img,pads,mem,cpu,pad,T,nmi,ctrl,kn,ka,st,rd,⟨⟨pT,pc,ps,pa,pp,pb,ptb,pds⟩,pcap,pl,pf⟩,⟨sa,scap,sl,ss⟩⟩:=s';have g1:img=s.img:=g1;have g2:pads=s.pads:=g2;have g3:ptb=s.pic.ppu.table:=g3;have g4:pds=s.pic.ppu.dots:=g4;have g5:pf=s.pic.frames:=g5;have g6:ss=s.snd.samples:=g6;subst g1 g2 g3 g4 g5 g6;rfl
 rw[Zi c0,Zd];by_cases c1:who=1
 ·subst c1;rw[(Zjy s).1,(Zjy s).2,Zn rfl,Zb];exact Za (ZhH s.pic s.T h.pic) rfl
 rw[Zi c1,Zd];by_cases c2:who=2
 ·subst c2;rw[(Zjz s).1,(Zjz s).2,Zn rfl,Zb];exact Za (ZhN s.snd s.T h.snd) rfl
 ·rw[Zi c2,Zd,(ZjA s c0 c1 c2).1,(ZjA s c0 c1 c2).2]
def ZhP:Tup QM:=([],([],([],(0,(0,(0,(0,(0,(false,(false,(false,(false,(false,(0,(0,(false,(0,(false,(0,(0,([],(0,(0,(0,(0,(0,(false,([],([],(0,([],([],(0,(0,(0,(0,(0,(false,(false,(0,([],([],()))))))))))))))))))))))))))))))))))))))))))
theorem ZlN {s:Zh} (h:ZA s) (hr:ZN s):ZU s.t:=h.s (by unfold ZN at hr;omega)
def Js (s:Zh) (who:Int):Tup QM×Bool:=if Qb s.t then ((Jm s who).t,J3 s who)else (ZhP,false)
theorem Zhq (s:Zh) (who:Int) (hs:ZU s.t) (hr:ZN s):r70 (s.t,(who,()))=some (((Js s who).1,((Js s who).2,())),()):=by
 unfold Js;cases ho:Qb s.t with
 |false=>
  unfold r70 m70;exact Za (by rw[Vt s.t hs,ho]) rfl
 |true=>
  have h:=JX.1 ho;unfold r70 m70;rw[Ze rfl];refine Za (Zik s h hr) (Za (Zfs s h hr) (Za (Zq0 s who h hr) ?_));have hg:(Jm s who).img=s.img∧(Jm s who).pads=s.pads:=by
   by_cases c0:who=0
   ·subst c0;rw[(ZhJ s).1];exact ⟨(UX s).img,(UX s).pads⟩
   by_cases c1:who=1
   ·subst c1;rw[(Zjy s).1];exact ⟨rfl,rfl⟩
   by_cases c2:who=2
   ·subst c2;rw[(Zjz s).1];exact ⟨rfl,rfl⟩
   ·rw[(ZjA s c0 c1 c2).1];exact ⟨rfl,rfl⟩
  obtain ⟨g1,g2⟩:=hg;generalize Jm s who=s' at g1 g2⊢;obtain ⟨img,pads,mem,cpu,pad,T,nmi,ctrl,kn,ka,st,rd,pc,sn⟩:=s';have g1:img=s.img:=g1;have g2:pads=s.pads:=g2;subst g1 g2;rfl
theorem ZkP (s:Zh) (who:Int) (h:ZA s) (hr:ZN s):r38 (s.t,(who,()))=some (((Jm s who).t,(J3 s who,())),()):=by
 unfold r38 m38;refine Za (ZdS s h hr) (Za (Zcy s h hr) ?_);show (bif eqI who 0 then _ else bif eqI who 1 then _ else bif eqI who 2 then _ else _)=_
 by_cases c0:who=0
 ·subst c0;rw[(ZhJ s).1,(ZhJ s).2,Zn rfl,Zb];exact Za (ZcQ s h hr) rfl
 rw[Zi c0,Zd];by_cases c1:who=1
 ·subst c1;rw[(Zjy s).1,(Zjy s).2,Zn rfl,Zb];exact Za (Zjd s.pic s.T h.pic) rfl
 rw[Zi c1,Zd];by_cases c2:who=2
 ·subst c2;rw[(Zjz s).1,(Zjz s).2,Zn rfl,Zb];exact Za (Zje s.snd s.T h.snd) rfl
 ·rw[Zi c2,Zd,(ZjA s c0 c1 c2).1,(ZjA s c0 c1 c2).2]
theorem ZhO (s:Zh) (who:Int) (hs:ZU s.t) (hr:ZN s):r38 (s.t,(who,()))=some (((Js s who).1,((Js s who).2,())),()):=by
 unfold Js;cases ho:Qb s.t with
 |true=>exact ZkP s who (JX.1 ho) hr
 |false=>
  unfold r38 m38;exact Za (by rw[Vf s.t hs,ho]) rfl
theorem Zlm (s:Zh) (h:ZA s):r72 (s.t,())=some ((),((ZW s).t,())):=by
 unfold r72 m72;exact Za (ZkB s.pic s.T h.pic) (Za (ZkM s.snd s.T h.snd) rfl)
def Yx (s:Zh):Zh:=if Qb s.t then ZW s else s
theorem Zjf (s:Zh) (hs:ZU s.t) (hr:ZN s):r35 (s.t,())=some ((s.t,()),()):=by
 unfold ZN at hr;obtain ⟨h1,h2,h3,h4,h5,h6⟩:=hs;have h2:s.pads.length≤4398046511104:=h2;have h3:s.mem.t.1.length≤4398046511104:=h3;have h62:s.snd.samples.length≤4398046511104:=h6.2;have l1:leN (0+s.pads.length) (E.most .i)=true:=ZI (by simp only[E.most];omega);have l2:leN (0+s.reads.length) (E.most .i)=true:=ZI (by simp only[E.most];omega);have kp:r86 (s.pic.t,())=some ((s.pic.t,()),()):=by
  unfold r86 m86;exact Za (UF s.pic.ppu.t h5.1) (Za (Zcx (s.pic.cap,(s.pic.list,())) h5.2.1) (Za (Zcw s.pic.frames h5.2.2) rfl))
 have ks:r87 (s.snd.t,())=some ((s.snd.t,()),()):=by
  unfold r87 m87;refine Za (Zcx (s.snd.cap,(s.snd.list,())) h6.1) ?_;show (bif leN (0+s.snd.samples.length) (E.most .i)then _ else none)=_
  rw[ZI (by simp only[E.most];omega)];rfl
 unfold r35 m35;refine Za (Zam s.img h1) ?_;show (bif leN (0+s.pads.length) (E.most .i)then _ else none)=_
 rw[l1,Zb];refine Za (Zdv s.mem.t h3) ?_;show (bif leN (0+s.reads.length) (E.most .i)then _ else none)=_
 rw[l2,Zb];exact Za kp (Za ks rfl)
theorem ZcY (s:Zh) (hs:ZU s.t) (hr:ZN s):r28 (s.t,())=some (((Yx s).t,()),()):=by
 unfold r28 m28 Yx;refine Za (Zae s.t hs) (Za (Vt s.t hs) ?_);show (bif Qb s.t then _ else _)=_
 cases ho:Qb s.t with
 |true=>exact Za (Zlm s (JX.1 ho)) rfl
 |false=>rfl
theorem ZbM (s:Zh) (hs:ZU s.t) (hr:ZN s):r39 (s.t,())=some (((Yx s).t,()),()):=by
 unfold r39 m39 Yx;refine Za (Zjf s hs hr) (Za (Vf s.t hs) ?_);show (bif !Qb s.t then _ else _)=_
 cases ho:Qb s.t with
 |true=>
  have h:=JX.1 ho;exact Za (Zc4 s.pic s.T h.pic) (Za (Zew s.snd s.T h.snd) rfl)
 |false=>rfl
theorem Zpr {s:Zh} (h:ZA s):Yx s=ZW s:=by
 unfold Yx;rw[JX.2 h,Ze rfl]
theorem Za0 (s:Zh):(ZW s).reads=s.reads:=rfl
def QB:Nat→Zh→Zh×Nat
 |0,s=>(s,0)
 |n+1,s=>if XM (ZW s)then ((QB n (QJ (ZW s))).1,(QB n (QJ (ZW s))).2+1)else (QJ (ZW s),0)
theorem Zfz: ∀{n:Nat} {s:Zh},ZA s→ZA (QB n s).1∧(QB n s).1.reads.length≤s.reads.length+n∧(QB n s).2≤n
 |0,s,h=>⟨h,Nat.le_refl _,Nat.le_refl _⟩
 |n+1,s,h=>by
  obtain ⟨a,b⟩:=ZgF (Zdy h).1;have b:(QJ (ZW s)).reads.length≤s.reads.length+1:=b;unfold QB;split
  ·obtain ⟨c,d,e⟩:=Zfz (n:=n) a;exact ⟨c,by show (QB n (QJ (ZW s))).1.reads.length≤_;omega,by show (QB n (QJ (ZW s))).2+1≤n+1;omega⟩
  ·exact ⟨a,by show (QJ (ZW s)).reads.length≤_;omega,Nat.zero_le _⟩
theorem Zi1: ∀(n:Nat) (s:Zh),(QB n s).1.img=s.img∧(QB n s).1.pads=s.pads
 |0,s=>⟨rfl,rfl⟩
 |n+1,s=>by
  have hr:=UX (ZW s);unfold QB;split
  ·obtain ⟨c,d⟩:=Zi1 n (QJ (ZW s));exact ⟨c.trans hr.img,d.trans hr.pads⟩
  ·exact ⟨hr.img,hr.pads⟩
def Qy (n:Int):Nat:=(if n<3000 then n else 3000).toNat
theorem Va (n:Int):Qy n≤3000:=by unfold Qy;split<;>omega
theorem Vx (n:Int):mnI n 3000=if n<3000 then n else 3000:=by
 unfold mnI;by_cases h:n<3000
 ·rw[Zc (by omega),Ze h]
 ·rw[Zc h];split<;>omega
theorem Zdm (n:Int): ∀(k i j:Nat) (s:Zh),ZA s→s.reads.length+j≤4398046511000→j<k→Qy n=i+j→
  n30_0 r72 r74 r24 r25 k (n,()) (s.t,()) ((i:Int),())=some (Sum.inl (((i+(QB j s).2:Nat):Int),()),((QB j s).1.t,()))
 |0,_,_,_,_,_,h,_=>absurd h (by omega)
 |k+1,i,j,s,h,hr,hk,hm=>by
  have hb:=Va n;show (bif ltI (i:Int) (mnI n 3000)then (r72 (s.t,())).bind _ else some (Sum.inl ((i:Int),()),(s.t,())))=_
  cases j with
  |zero=>
   rw[Vx,Zx (by unfold Qy at hm;omega),Zd];rfl
  |succ j=>
   rw[Vx,Zl (by unfold Qy at hm;omega),Zb];have hL:=(Zdy h).1;have hroom:ZN (ZW s):=by unfold ZN;rw[Za0];omega
   refine Za (Zlm s h) (Za (Zex (ZW s) hL hroom) ?_);obtain ⟨a,b⟩:=ZgF hL;rw[Za0]at b;have hrow:=UX (ZW s);have g1:(QJ (ZW s)).img=s.img:=hrow.img;have g2:(QJ (ZW s)).pads=s.pads:=hrow.pads;show (bif !XM (ZW s)then _ else _)=_
   cases hst:XM (ZW s)with
   |false=>
    have e:QB (j+1) s=(QJ (ZW s),0):=by
     show (if XM (ZW s)then _ else _)=_
     rw[hst,Zc (by simp)]
    rw[e,QE,Zb];clear a b hrow e;obtain ⟨_,_,g3,g4,g5,g6⟩:=UX (ZW s);generalize QJ (ZW s)=s' at g1 g2 g3 g4 g5 g6⊢;generalize hlm:ZW s=l at g3 g4 g5 g6⊢;obtain ⟨img,pads,mem,cpu,pad,T,nmi,ctrl,kn,ka,st,rd,⟨⟨pT,pc,ps,pa,pp,pb,ptb,pds⟩,pcap,pl,pf⟩,⟨sa,scap,sl,ss⟩⟩:=s';have g1:img=s.img:=g1;have g2:pads=s.pads:=g2;have g3:ptb=l.pic.ppu.table:=g3;have g4:pds=l.pic.ppu.dots:=g4;have g5:pf=l.pic.frames:=g5;have g6:ss=l.snd.samples:=g6;subst g1 g2 g3 g4 g5 g6;rfl
   |true=>
    have e:QB (j+1) s=((QB j (QJ (ZW s))).1,(QB j (QJ (ZW s))).2+1):=by
     show (if XM (ZW s)then _ else _)=_
     rw[hst,Ze rfl]
    rw[e,ZM,Zd];have ih:=Zdm n k (i+1) j (QJ (ZW s)) a (by omega) (by omega) (by omega);have w2:wI ((i:Int)+1)=((i+1:Nat):Int):=Ql (by omega);rw[←w2]at ih;rw[show i+((QB j (QJ (ZW s))).2+1)=i+1+(QB j (QJ (ZW s))).2 by omega];clear a b hrow e;obtain ⟨_,_,g3,g4,g5,g6⟩:=UX (ZW s);generalize QJ (ZW s)=s' at g1 g2 g3 g4 g5 g6 ih⊢;generalize hlm:ZW s=l at g3 g4 g5 g6⊢;obtain ⟨img,pads,mem,cpu,pad,T,nmi,ctrl,kn,ka,st,rd,⟨⟨pT,pc,ps,pa,pp,pb,ptb,pds⟩,pcap,pl,pf⟩,⟨sa,scap,sl,ss⟩⟩:=s';have g1:img=s.img:=g1;have g2:pads=s.pads:=g2;have g3:ptb=l.pic.ppu.table:=g3;have g4:pds=l.pic.ppu.dots:=g4;have g5:pf=l.pic.frames:=g5;have g6:ss=l.snd.samples:=g6;subst g1 g2 g3 g4 g5 g6;exact ih
def WG (s:Zh) (n:Int):Tup QM×Int:=if Qb s.t then ((QB (Qy n) s).1.t,((QB (Qy n) s).2:Int))else (ZhP,0)
theorem Zml (s:Zh) (n:Int) (hs:ZU s.t) (hr:s.reads.length≤1048576):r30 (s.t,(n,()))=some (((WG s n).1,((WG s n).2,())),()):=by
 have hroom:ZN s:=by unfold ZN;omega
 have hb:=Va n;unfold r30 m30 WG;refine Za (Vt s.t hs) ?_;show (bif !Qb s.t then _ else _)=_
 cases ho:Qb s.t with
 |false=>rfl
 |true=>
  have h:=JX.1 ho;rw[ZM,Zd,Ze rfl];refine Za (Zfs s h hroom) ?_;have k:=Zdm n fuel 0 (Qy n) s h (by omega) (by have:=ZZ;omega) (by omega);simp only[Int.natCast_zero,Nat.zero_add]at k;refine Za k ?_;obtain ⟨g1,g2⟩:=Zi1 (Qy n) s;generalize QB (Qy n) s=d at g1 g2⊢;obtain ⟨⟨img,pads,mem,cpu,pad,T,nmi,ctrl,kn,ka,st,rd,pc,sn⟩,n⟩:=d;have g1:img=s.img:=g1;have g2:pads=s.pads:=g2;subst g1 g2;rfl
theorem ZjQ (s:Zh) (h:ZA s) (hr:ZN s):r39 (s.t,())=some (((ZW s).t,()),()):=by
 have:=ZbM s (ZlN h hr) hr;rwa [Zpr h]at this
theorem Zei (n:Int):r104 (n,((3000:Int),()))=some ((mnI n 3000,()),()):=by rw[Zli,Vx]
theorem ZdP (n:Int) (z:Tup QM): ∀(k i j:Nat) (s:Zh),ZA s→s.reads.length+j≤4398046511000→j<k→Qy n=i+j→
  (∃y,n42_0 r98 r39 r36 r35 r105 r104 k (n,()) (z,(s.t,())) ((i:Int),())=some (Sum.inr (((i+(QB j s).2:Nat):Int),()),((QB j s).1.t,(y,()))))∨
  (∃y m,n42_0 r98 r39 r36 r35 r105 r104 k (n,()) (z,(s.t,())) ((i:Int),())=some (Sum.inl m,(y,((QB j s).1.t,())))∧(QB j s).2=j)
 |0,_,_,_,_,_,h,_=>absurd h (by omega)
 |k+1,i,j,s,h,hr,hk,hm=>by
  have hb:=Va n;have e0:n42_0 r98 r39 r36 r35 r105 r104 (k+1) (n,()) (z,(s.t,())) ((i:Int),())=bif ltI (i:Int) (mnI n 3000)then (r39 (s.t,())).bind (fun r1=>(r98 (r1.1.1,())).bind fun r2=>
    bif (!r2.1.2.1)then (some ((Sum.inr ((i:Int),())),(r2.1.1,(s.t,()))))else n42_0 r98 r39 r36 r35 r105 r104 k (n,()) (z,(r2.1.1,())) ((wI ((i:Int)+(1:Int))),()))else some (Sum.inl ((i:Int),()),(z,(s.t,()))):=by
   show (r104 (n,((3000:Int),()))).bind _=_;exact Za (Zei n) rfl
  rw[e0];cases j with
  |zero=>
   rw[Vx,Zx (by unfold Qy at hm;omega),Zd];exact .inr ⟨_,_,rfl,rfl⟩
  |succ j=>
   rw[Vx,Zl (by unfold Qy at hm;omega),Zb];have hL:=(Zdy h).1;have hroom:ZN (ZW s):=by unfold ZN;rw[Za0];omega
   have hroom':ZN s:=by unfold ZN;omega
   rw[ZjQ s h hroom',Zo,ZcQ (ZW s) hL hroom,Zo];obtain ⟨a,b⟩:=ZgF hL;rw[Za0]at b;cases hst:XM (ZW s)with
   |false=>
    have e:QB (j+1) s=(QJ (ZW s),0):=by
     show (if XM (ZW s)then _ else _)=_
     rw[hst,Zc (by simp)]
    rw[e];exact .inl ⟨_,rfl⟩
   |true=>
    have e:QB (j+1) s=((QB j (QJ (ZW s))).1,(QB j (QJ (ZW s))).2+1):=by
     show (if XM (ZW s)then _ else _)=_
     rw[hst,Ze rfl]
    rw[e];have ih:=ZdP n z k (i+1) j (QJ (ZW s)) a (by omega) (by omega) (by omega);have w2:wI ((i:Int)+1)=((i+1:Nat):Int):=Ql (by omega);rw[←w2]at ih;rcases ih with ⟨y,ih⟩| ⟨y,m,ih,ih2⟩
    ·refine .inl ⟨y,?_⟩;rw[show i+((QB j (QJ (ZW s))).2+1)=i+1+(QB j (QJ (ZW s))).2 by omega];exact ih
    ·exact .inr ⟨y,m,ih,by show (QB j (QJ (ZW s))).2+1=j+1;omega⟩
theorem ZmN (s:Zh) (n:Int) (hs:ZU s.t) (hr:s.reads.length≤1048576):r42 (s.t,(n,()))=some (((WG s n).1,((WG s n).2,())),()):=by
 have hroom:ZN s:=by unfold ZN;omega
 have hb:=Va n;unfold r42 m42 WG;refine Za (Vf s.t hs) ?_;show (bif !Qb s.t then _ else _)=_
 cases ho:Qb s.t with
 |false=>rfl
 |true=>
  have h:=JX.1 ho;rw[ZM,Zd,Ze rfl];refine Za (Zcy s h hroom) ?_;rcases ZdP n ZhP fuel 0 (Qy n) s h (by omega) (by have:=ZZ;omega) (by omega)with ⟨y,k⟩| ⟨y,m,k,k2⟩
  ·simp only[Int.natCast_zero,Nat.zero_add]at k;exact Za k rfl
  ·simp only[Int.natCast_zero]at k;refine Za k ?_;refine Za (Zei n) (Za (Zlh (mnI n 3000) 0) ?_);have e:(if (0:Int)<mnI n 3000 then mnI n 3000 else 0)=((QB (Qy n) s).2:Int):=by
    rw[k2,Vx];unfold Qy
    repeat' split
    all_goals omega
   rw[e]
def KV (s:Zh):List Int:=((if (Js s 0).2 then [0]else [])++(if (Js s 1).2 then [1]else []))++(if (Js s 2).2 then [2]else [])
theorem Zbc (s:Zh) (hs:ZU s.t) (hr:ZN s) (k:Nat) (i:Nat) (l:List Int) (hi:i≤2) (hl:l.length≤3):
  n215_0 r70 (k+1) () (s.t,()) (l,((i:Int),()))=n215_0 r70 k () (s.t,()) (l++(if (Js s (i:Int)).2 then [(i:Int)]else []),(((i+1:Nat):Int),())):=by
 have e0:n215_0 r70 (k+1) () (s.t,()) (l,((i:Int),()))=bif leI (i:Int) 2 then (r70 (s.t,((i:Int),()))).bind (fun r0=>bif r0.1.2.1 then (bif leN (l.length+1) (E.most .i)then n215_0 r70 k () (s.t,()) (l++[(i:Int)],(wI ((i:Int)+1),()))else none)else n215_0 r70 k () (s.t,()) (l,(wI ((i:Int)+1),())))else some (Sum.inl (l,((i:Int),())),(s.t,())):=rfl
 rw[e0,Zp (by omega),Zb,Zhq s (i:Int) hs hr,Zo,Ql (by omega),ZI (by simp only[E.most];omega)];cases (Js s (i:Int)).2 with
 |true=>rfl
 |false=>simp
theorem Zmk (s:Zh) (hs:ZU s.t) (hr:ZN s):r215 (s.t,())=some ((KV s,()),()):=by
 obtain ⟨f,hf⟩: ∃f,fuel=f+4:=⟨fuel-4,by have:=ZZ;omega⟩;unfold r215 m215 L215_0;rw[hf];have l0: ∀b:Bool,∀x:Int,(if b then [x]else []).length≤1:=fun b x=>by cases b<;>simp
 have r0:=Zbc s hs hr (f+3) 0 [] (by omega) (by decide);have r1:=Zbc s hs hr (f+2) 1 ([]++(if (Js s 0).2 then [(0:Int)]else [])) (by omega) (by have:=l0 (Js s 0).2 0;simp only[List.nil_append];omega)
 have r2:=Zbc s hs hr (f+1) 2 (([]++(if (Js s 0).2 then [(0:Int)]else []))++(if (Js s 1).2 then [(1:Int)]else [])) (by omega) (by have:=l0 (Js s 0).2 0;have:=l0 (Js s 1).2 1;simp only[List.nil_append,List.length_append];omega)
 have r3:n215_0 r70 (f+1) () (s.t,()) (KV s,((3:Int),()))=some (Sum.inl (KV s,((3:Int),())),(s.t,())):=rfl;exact Za (r0.trans (r1.trans (r2.trans r3))) rfl
theorem Zbe (s:Zh) (hs:ZU s.t) (hr:ZN s) (k:Nat) (i:Nat) (l:List Int) (hi:i≤2) (hl:l.length≤3):
  n230_0 r38 (k+1) () (s.t,()) (l,((i:Int),()))=n230_0 r38 k () (s.t,()) (l++(if (Js s (i:Int)).2 then [(i:Int)]else []),(((i+1:Nat):Int),())):=by
 have e0:n230_0 r38 (k+1) () (s.t,()) (l,((i:Int),()))=bif ltI (i:Int) 3 then (r38 (s.t,((i:Int),()))).bind (fun r0=>bif r0.1.2.1 then (bif leN (l.length+1) (E.most .i)then n230_0 r38 k () (s.t,()) (l++[(i:Int)],(wI ((i:Int)+1),()))else none)else n230_0 r38 k () (s.t,()) (l,(wI ((i:Int)+1),())))else some (Sum.inl (l,((i:Int),())),(s.t,())):=rfl
 rw[e0,Zl (by omega),Zb,ZhO s (i:Int) hs hr,Zo,Ql (by omega),ZI (by simp only[E.most];omega)];cases (Js s (i:Int)).2 with
 |true=>rfl
 |false=>simp
theorem ZmM (s:Zh) (hs:ZU s.t) (hr:ZN s):r230 (s.t,())=some ((KV s,()),()):=by
 obtain ⟨f,hf⟩: ∃f,fuel=f+4:=⟨fuel-4,by have:=ZZ;omega⟩;unfold r230 m230 L230_0;rw[hf];have l0: ∀b:Bool,∀x:Int,(if b then [x]else []).length≤1:=fun b x=>by cases b<;>simp
 have r0:=Zbe s hs hr (f+3) 0 [] (by omega) (by decide);have r1:=Zbe s hs hr (f+2) 1 ([]++(if (Js s 0).2 then [(0:Int)]else [])) (by omega) (by have:=l0 (Js s 0).2 0;simp only[List.nil_append];omega)
 have r2:=Zbe s hs hr (f+1) 2 (([]++(if (Js s 0).2 then [(0:Int)]else []))++(if (Js s 1).2 then [(1:Int)]else [])) (by omega) (by have:=l0 (Js s 0).2 0;have:=l0 (Js s 1).2 1;simp only[List.nil_append,List.length_append];omega)
 have r3:n230_0 r38 (f+1) () (s.t,()) (KV s,((3:Int),()))=some (Sum.inl (KV s,((3:Int),())),(s.t,())):=rfl;exact Za (r0.trans (r1.trans (r2.trans r3))) rfl
def ZmV (s:Zh):Int:=if Qb s.t then QU s else 6
theorem Zhr (s:Zh) (hs:ZU s.t):r135 (s.t,())=some ((ZmV s,()),()):=by
 unfold r135 m135 ZmV;refine Za (Vt s.t hs) ?_;show (bif !Qb s.t then _ else _)=_
 cases ho:Qb s.t with
 |false=>rfl
 |true=>exact Za (ZkY s (JX.1 ho)) rfl
theorem ZmP (s:Zh) (hs:ZU s.t):r231 (s.t,())=some ((ZmV s,()),()):=by
 unfold r231 m231 ZmV;refine Za (Vf s.t hs) ?_;show (bif !Qb s.t then _ else _)=_
 cases ho:Qb s.t with
 |false=>rfl
 |true=>exact Za (Zeh s (JX.1 ho)) rfl
theorem Ze4 {s:Zh} (hs:ZU s.t) (hr:ZN s):ZU (Yx s).t∧ZN (Yx s):=by
 unfold Yx;cases ho:Qb s.t with
 |false=>exact ⟨hs,hr⟩
 |true=>exact ⟨ZlN (Zdy (JX.1 ho)).1 hr,hr⟩
def ZiP (s:Zh):Bool:=Qb s.t&&(ltI 0 ((KV s).length:Int)||eqI (ZmV (Yx s)) 5)
theorem ZeU (s:Zh) (hs:ZU s.t) (hr:ZN s):r140 (s.t,())=some ((ZiP s,()),()):=by
 obtain ⟨l1,l2⟩:=Ze4 hs hr;unfold r140 m140 ZiP;refine Za (Vt s.t hs) ?_;show (bif Qb s.t then _ else _)=_
 cases Qb s.t with
 |false=>rfl
 |true=>
  refine Za (Zmk s hs hr) ?_;show (bif ltI 0 ((KV s).length:Int)then _ else _)=_
  cases ltI 0 ((KV s).length:Int)with
  |true=>rfl
  |false=>exact Za (ZcY s hs hr) (Za (Zhr (Yx s) l1) rfl)
theorem ZeY (s:Zh) (hs:ZU s.t) (hr:ZN s):r165 (s.t,())=some ((ZiP s,()),()):=by
 obtain ⟨l1,l2⟩:=Ze4 hs hr;unfold r165 m165 ZiP;refine Za (Vf s.t hs) ?_;show (bif Qb s.t then _ else _)=_
 cases Qb s.t with
 |false=>rfl
 |true=>
  refine Za (ZmM s hs hr) ?_;show (bif ltI 0 ((KV s).length:Int)then _ else _)=_
  cases ltI 0 ((KV s).length:Int)with
  |true=>rfl
  |false=>exact Za (ZbM s hs hr) (Za (ZmP (Yx s) l1) rfl)

end Go.Proofs.YtcbdldlphpjmbaaGreatDoor.Plain
