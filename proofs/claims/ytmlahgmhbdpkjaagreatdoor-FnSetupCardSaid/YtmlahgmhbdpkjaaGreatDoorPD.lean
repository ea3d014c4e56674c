/- Plain laws of the printed functions: StepI, StepJ, PlayI, FairI. No condition beyond those that each lemma states. -/
import Derived.Test.YtmlahgmhbdpkjaaGreatDoorPC
set_option linter.unusedVariables false
set_option linter.unusedSimpArgs false
namespace Go.Proofs.YtmlahgmhbdpkjaaGreatDoor.Plain
open Go Go.Tev
def Room (s:Zac):Prop:=s.reads.length≤4398046511000
theorem Zl3 (s:Zac) (b:Bool):r236 (s.t,(b,()))=some ((),((Zfg s b).t,())):=rfl
theorem ZnF (s:Zac) (a:Int) (h:Zaz s) (hr:Room s):r259 (s.t,(a,()))=some ((ZjY s a,()),((ZfD s a).t,())):=by
 unfold Room at hr
 have hl:leN (s.reads.length+1) (E.most .i)=true:=Zc5 (by simp only[E.most];omega)
 unfold r259 m259 ZfD ZjY
 refine Zaa (Zbu (a,())) ?_
 show (bif eqI (rgT a).1 2 then _ else bif eqI (rgT a).1 3 then _ else bif eqI (rgT a).1 4 then _ else bif eqI (rgT a).1 7 then _ else _)=_
 by_cases c2:(rgT a).1=2
 ·rw[Zav c2,if_pos c2,if_pos c2,cond_true]
  refine Zaa (Zsa s.pic.ppu h.pic.ppu (rgT a).2) ?_
  obtain ⟨e1,e2⟩:=ZfZ s.pic.ppu (rgT a).2
  generalize Ze2 s.pic.ppu (rgT a).2=q at e1 e2⊢
  obtain ⟨T,c,sc,ad,pal,bl,tb,ds⟩:=q
  have e1:tb=s.pic.ppu.table:=e1
  have e2:ds=s.pic.ppu.dots:=e2
  subst e1 e2
  show (bif leN (s.reads.length+1) (E.most .i)then _ else none)=_
  rw[hl];rfl
 rw[Zaq c2,if_neg c2,if_neg c2,cond_false]
 by_cases c3:(rgT a).1=3
 ·rw[Zav c3,if_pos c3,if_pos c3,cond_true]
  refine Zaa (Zge s.snd.apu h.snd.apu (rgT a).2) ?_
  show (bif eqI (rgT a).2 2 then _ else _)=_
  by_cases a2:(rgT a).2=2
  ·rw[Zav a2,if_pos a2,cond_true]
   refine Zaa (Zl3 {s with snd:={s.snd with apu:=Zhd s.snd.apu (rgT a).2}} false) ?_
   show (bif leN (s.reads.length+1) (E.most .i)then _ else none)=_
   rw[hl];rfl
  ·rw[Zaq a2,if_neg a2]
   show (bif leN (s.reads.length+1) (E.most .i)then _ else none)=_
   rw[hl];rfl
 rw[Zaq c3,if_neg c3,if_neg c3,cond_false]
 by_cases c4:(rgT a).1=4
 ·rw[Zav c4,if_pos c4,if_pos c4,cond_true]
  refine Zaa (Zgf s.pad s.pads s.T h.pads h.t) ?_
  show (bif leN (s.reads.length+1) (E.most .i)then _ else none)=_
  rw[hl];rfl
 rw[Zaq c4,if_neg c4,if_neg c4,cond_false]
 by_cases c7:(rgT a).1=7
 ·have hz:Zbx s.img s.mem a=0:=by
   unfold Zbx
   rw[if_neg (by omega),if_neg (by omega),if_neg (by omega)]
  rw[Zav c7,hz];rfl
 ·rw[Zaq c7,cond_false]
  exact Zaa (Zbt s.img s.mem a h.mem) rfl
theorem Zog {s:Zac} (h:Zaz s):s.pic.list.length≤16∧s.snd.list.length≤16:=by
 have h1:=h.pic.ring.len
 have h2:=h.pic.ring.c1
 have h3:=h.snd.ring.len
 have h4:=h.snd.ring.c1
 omega
theorem Zmp (s:Zac) (a v:Int) (h:Zaz s) (hv:0≤v∧v≤255):r260 (s.t,(a,(v,())))=some ((),((ZcZ s a v).t,())):=by
 obtain ⟨l1,l2⟩:=Zog h
 have hl1:leN (s.pic.list.length+1) (E.most .t)=true:=Zc5 (by simp only[E.most];omega)
 have hl2:leN (s.snd.list.length+1) (E.most .t)=true:=Zc5 (by simp only[E.most];omega)
 have k:r194 (v,())=some ((v,()),()):=by
  rw[ZaN (v,())]
  show some ((v%256,()),())=_
  rw[show v%256=v by omega]
 unfold r260 m260 ZcZ
 refine Zaa (Zbu (a,())) (Zaa k ?_)
 show (bif eqI (rgT a).1 2 then _ else bif eqI (rgT a).1 3 then _ else bif eqI (rgT a).1 4 then _ else bif eqI (rgT a).1 1 then _ else bif eqI (rgT a).1 5 then _ else bif eqI (rgT a).1 6 then _ else _)=_
 by_cases c2:(rgT a).1=2
 ·rw[Zav c2,if_pos c2]
  show (bif leN (s.pic.list.length+1) (E.most .t)then (bif eqI (rgT a).2 0 then _ else _)else none)=_
  rw[hl1]
  by_cases a0:(rgT a).2=0
  ·rw[Zav a0,if_pos a0];rfl
  ·rw[Zaq a0,if_neg a0];rfl
 rw[Zaq c2,if_neg c2,cond_false]
 by_cases c3:(rgT a).1=3
 ·rw[Zav c3,if_pos c3]
  show (bif leN (s.snd.list.length+1) (E.most .t)then (bif eqI (rgT a).2 3 then _ else bif eqI (rgT a).2 2 then (bif eqI (Int.tmod v 2) 0 then _ else _)else _)else none)=_
  rw[hl2,cond_true,Za8 hv.1]
  have kn:=Zl3 {s with snd:={s.snd with list:=s.snd.list++[(s.T,((rgT a).2,v))]}} false
  by_cases a3:(rgT a).2=3
  ·rw[Zav a3,if_pos (.inl a3),cond_true]
   exact Zaa kn rfl
  rw[Zaq a3,cond_false]
  by_cases a2:(rgT a).2=2
  ·rw[Zav a2]
   by_cases v2:v%2=0
   ·rw[cond_true,Zav v2,if_pos (.inr ⟨a2,v2⟩),cond_true]
    exact Zaa kn rfl
   ·rw[Zaq v2,if_neg (by omega)];rfl
  ·rw[Zaq a2,if_neg (by omega)];rfl
 rw[Zaq c3,if_neg c3,cond_false]
 by_cases c4:(rgT a).1=4
 ·rw[Zav c4,if_pos c4,cond_true]
  exact Zaa (Zfs s.pad s.pads s.T v h.pads h.t) rfl
 rw[Zaq c4,if_neg c4,cond_false]
 have kp:=Zjv s.img s.mem a v h.mem
 by_cases c1:(rgT a).1=1
 ·rw[Zav c1,cond_true]
  exact Zaa kp rfl
 rw[Zaq c1,cond_false]
 by_cases c5:(rgT a).1=5
 ·rw[Zav c5,cond_true]
  exact Zaa kp rfl
 rw[Zaq c5,cond_false]
 by_cases c6:(rgT a).1=6
 ·rw[Zav c6,cond_true]
  exact Zaa kp rfl
 ·rw[Zaq c6,cond_false]
  have e:ZkI s.img s.mem a v=s.mem:=by
   unfold ZkI
   rw[if_neg c1,if_neg (by omega)]
  rw[e]
theorem Zfu (s:Zac) (v:Int) (h:Zaz s) (hv:65530≤v∧v≤65534):r237 (s.t,(v,()))=some ((),((Zlc s v).t,())):=by
 unfold r237 m237
 have e:wI (v+1)=v+1:=Zau (by omega) (by omega)
 have k:=Zbt s.img s.mem (v+1) h.mem
 rw[←e]at k
 refine Zaa (Zbt s.img s.mem v h.mem) (Zaa k (Zaa (ZcE (Zbx s.img s.mem v,(Zbx s.img s.mem (wI (v+1)),()))) (Zaa (ZoV s.mem s.cpu (ZgA (Zbx s.img s.mem v) (Zbx s.img s.mem (wI (v+1)))) h.mem.ram h.cpu) ?_)))
 rw[e];rfl
theorem Zlu (s:Zac) (a:Int):(ZfD s a).pic.ppu.table=s.pic.ppu.table∧(ZfD s a).pic.ppu.dots=s.pic.ppu.dots∧(ZfD s a).pic.list=s.pic.list∧(ZfD s a).pic.frames=s.pic.frames∧(ZfD s a).snd.list=s.snd.list∧(ZfD s a).snd.samples=s.snd.samples:=by
 obtain ⟨e1,e2⟩:=ZfZ s.pic.ppu (rgT a).2
 unfold ZfD
 repeat' split
 all_goals first|exact ⟨e1,e2,rfl,rfl,rfl,rfl⟩|exact ⟨rfl,rfl,rfl,rfl,rfl,rfl⟩
theorem Zkq (s:Zac) (a v:Int):(ZcZ s a v).pic.ppu=s.pic.ppu∧(ZcZ s a v).pic.frames=s.pic.frames∧(ZcZ s a v).snd.samples=s.snd.samples∧(ZcZ s a v).snd.apu=s.snd.apu∧(ZcZ s a v).reads=s.reads:=by
 unfold ZcZ
 repeat' split
 all_goals exact ⟨rfl,rfl,rfl,rfl,rfl⟩
theorem ZrW (s:Zac) (h:ZqX s) (hr:Room s):r238 (s.t,())=some ((Zba (opS s),()),((opDo s).t,())):=by
 have hp:=h.p
 unfold r238 m238 opDo
 refine Zaa (ZfS s.img s.mem s.cpu.pc hp.mem hp.cpu.pc) (Zaa (Zdf (opS s) (argS s) s.cpu hp.cpu (Zt8 hp)) ?_)
 show (bif eqI (ZaX (opS s)) 1 then _ else bif eqI (ZaX (opS s)) 2 then _ else _)=_
 by_cases o1:ZaX (opS s)=1
 ·rw[Zav o1,if_pos o1,cond_true]
  refine Zaa (ZnF s (adrS s) hp hr) ?_
  have hv:=Ztx hp (adrS s)
  obtain ⟨⟨f1,f2,f3,f4,f5,f6⟩,f7,f8⟩:=Zoy s (adrS s)
  obtain ⟨g1,g2,g3,g4,g5,g6⟩:=Zlu s (adrS s)
  generalize ZjY s (adrS s)=v at hv⊢
  generalize ZfD s (adrS s)=s' at f1 f2 f3 f4 f5 f6 f7 f8 g1 g2 g3 g4 g5 g6⊢
  obtain ⟨img,pads,mem,cpu,pad,T,nmi,ctrl,kn,ka,st,rd,⟨⟨pT,pc,ps,pa,pp,pb,ptb,pds⟩,pcap,pl,pf⟩,⟨sa,scap,sl,ss⟩⟩:=s'
  have f1:img=s.img:=f1
  have f2:pads=s.pads:=f2
  have f7:cpu=s.cpu:=f7
  have f8:mem=s.mem:=f8
  have g1:ptb=s.pic.ppu.table:=g1
  have g2:pds=s.pic.ppu.dots:=g2
  have g3:pl=s.pic.list:=g3
  have g4:pf=s.pic.frames:=g4
  have g5:sl=s.snd.list:=g5
  have g6:ss=s.snd.samples:=g6
  subst f1 f2 f7 f8 g1 g2 g3 g4 g5 g6
  exact Zaa (ZhC s.mem s.cpu (opS s) (argS s) v hp.mem.ram hp.cpu hv) (Zaa (ZbQ (opS s,())) rfl)
 rw[Zaq o1,if_neg o1,cond_false]
 by_cases o2:ZaX (opS s)=2
 ·rw[Zav o2,if_pos o2,cond_true]
  have ev:accV (opS s) s.cpu.a=s.cpu.a%256:=by unfold accV;rw[if_pos o2]
  have kw:=Zmp s (adrS s) (s.cpu.a%256) hp (mod256 _)
  rw[←ev]at kw
  refine Zaa kw ?_
  rw[ev]
  have hq:=ZpN hp (mod256 s.cpu.a) (h.room o2) (h.room' o2)
  obtain ⟨⟨f1,f2,f3,f4,f5,f6⟩,f7⟩:=Zmv s (adrS s) (s.cpu.a%256)
  obtain ⟨g1,g2,g3,g4,g5⟩:=Zkq s (adrS s) (s.cpu.a%256)
  generalize ZcZ s (adrS s) (s.cpu.a%256)=s' at hq f1 f2 f3 f4 f5 f6 f7 g1 g2 g3 g4 g5⊢
  have h1:=hq.mem.ram
  have h2:=hq.cpu
  clear hq
  obtain ⟨img,pads,mem,cpu,pad,T,nmi,ctrl,kn,ka,st,rd,⟨pp,pcap,pl,pf⟩,⟨sa,scap,sl,ss⟩⟩:=s'
  have f1:img=s.img:=f1
  have f2:pads=s.pads:=f2
  have g1:pp=s.pic.ppu:=g1
  have g2:pf=s.pic.frames:=g2
  have g3:ss=s.snd.samples:=g3
  have g4:sa=s.snd.apu:=g4
  have g5:rd=s.reads:=g5
  subst f1 f2 g1 g2 g3 g4 g5
  exact Zaa (ZhC mem cpu (opS s) (argS s) 0 h1 h2 (by decide)) (Zaa (ZbQ (opS s,())) rfl)
 ·rw[Zaq o2,if_neg o2,cond_false]
  have ev:accV (opS s) s.cpu.a=0:=by unfold accV;rw[if_neg o2]
  have k:=ZhC s.mem s.cpu (opS s) (argS s) 0 hp.mem.ram hp.cpu (by decide)
  rw[←ev]at k
  refine Zaa k (Zaa (ZbQ (opS s,())) ?_)
  rw[ev];rfl
structure Zcj (s s':Zac):Prop where
 img:s'.img=s.img
 pads:s'.pads=s.pads
 table:s'.pic.ppu.table=s.pic.ppu.table
 dots:s'.pic.ppu.dots=s.pic.ppu.dots
 frames:s'.pic.frames=s.pic.frames
 samples:s'.snd.samples=s.snd.samples
theorem Zcj.rfl' (s:Zac):Zcj s s:=⟨rfl,rfl,rfl,rfl,rfl,rfl⟩
theorem ZjL (s:Zac):Zcj s (opDo s):=by
 unfold opDo
 split
 ·obtain ⟨⟨f1,f2,_⟩,_⟩:=Zoy s (adrS s)
  obtain ⟨g1,g2,g3,g4,g5,g6⟩:=Zlu s (adrS s)
  exact ⟨f1,f2,g1,g2,g4,g6⟩
 split
 ·obtain ⟨⟨f1,f2,_⟩,_⟩:=Zmv s (adrS s) (s.cpu.a%256)
  obtain ⟨g1,g2,g3,g4,g5⟩:=Zkq s (adrS s) (s.cpu.a%256)
  refine ⟨f1,f2,?_,?_,g2,g3⟩
  ·show (ZcZ s (adrS s) (s.cpu.a%256)).pic.ppu.table=_;rw[g1]
  ·show (ZcZ s (adrS s) (s.cpu.a%256)).pic.ppu.dots=_;rw[g1]
 ·exact ⟨rfl,rfl,rfl,rfl,rfl,rfl⟩
theorem Zoc (s:Zac):Zcj s (Zbi s):=by
 unfold Zbi
 split<;>exact ⟨rfl,rfl,rfl,rfl,rfl,rfl⟩
theorem Zp9 (s:Zac):Zcj s (Zrn s).1:=by
 unfold Zrn
 split
 ·exact ⟨rfl,rfl,rfl,rfl,rfl,rfl⟩
 split
 ·exact ⟨rfl,rfl,rfl,rfl,rfl,rfl⟩
 ·exact ZjL s
theorem Zcj.trans {a b c:Zac} (h:Zcj a b) (k:Zcj b c):Zcj a c:=⟨k.img.trans h.img,k.pads.trans h.pads,k.table.trans h.table,k.dots.trans h.dots,k.frames.trans h.frames,k.samples.trans h.samples⟩
theorem ZqQ (s:Zac):Zcj s (Zso s):=by
 have h:=(Zoc s).trans (Zp9 (Zbi s))
 exact ⟨h.img,h.pads,h.table,h.dots,h.frames,h.samples⟩
theorem Zq4 (t:Int):Zkt t t=false:=decide_eq_false (by omega)
theorem ZmF (s:Zac) (hn:s.nmi=false):askM (Zbi s)=((Zbi s).known&& !s.cpu.i):=by
 unfold Zbi
 cases hm:ZjE s with
 |true=>
  rw[if_pos rfl]
  unfold askM Zfg
  rw[show Zkt s.T s.T=false from Zq4 _]
  rfl
 |false=>
  rw[if_neg (by simp)]
  unfold ZjE at hm
  rw[hn]at hm
  unfold askM
  cases hi:s.cpu.i with
  |true=>simp
  |false=>
   rw[hi]at hm
   have hb:Zkt s.knownAt s.T=false:=by simpa using hm
   rw[hb];rfl
theorem Zpw {s:Zac} (h:Zaz s) (hw:ZdN s=0) (hn:s.nmi=false) (ha:askM s=false):ZqX (Zbi s):=by
 have hL:=Zo6 h
 obtain ⟨e1,e2,e3,e4,e5,e6,e7,e8,e9,e10⟩:=Zod s
 have eop:opS (Zbi s)=opS s:=by unfold opS;rw[e1,e2,e3]
 have earg:argS (Zbi s)=argS s:=by unfold argS;rw[e1,e2,e3]
 have eadr:adrS (Zbi s)=adrS s:=by unfold adrS;rw[eop,earg,e3]
 unfold ZdN at hw
 rw[hn,if_neg (by simp)]at hw
 split at hw
 ·omega
 rw[if_neg (by rw[ha];simp)]at hw
 split at hw
 ·omega
 split at hw
 ·omega
 split at hw
 ·omega
 rename_i h3
 split at hw
 ·omega
 rename_i h4
 exact ⟨hL,fun a b=>by rw[eop]at a;rw[eadr]at b;rw[e4];rcases Int.lt_or_le (s.pic.list.length:Int) s.pic.cap with h5|h5;exact h5;exact absurd ⟨a,b,h5⟩ h3,
  fun a b=>by rw[eop]at a;rw[eadr]at b;rw[e5];rcases Int.lt_or_le (s.snd.list.length:Int) s.snd.cap with h5|h5;exact h5;exact absurd ⟨a,b,h5⟩ h4⟩
theorem Zh7 {s:Zac} (hw:ZdN s=0) (hq:s.nmi=true∨askM s=true):s.T+7≤20000:=by
 unfold ZdN at hw
 cases hn:s.nmi with
 |true=>rw[hn,if_pos rfl]at hw;exact ZhS hw
 |false=>
  rw[hn,if_neg (by simp)]at hw
  split at hw
  ·omega
  rcases hq with hq|hq
  ·rw[hn]at hq;cases hq
  ·rw[if_pos hq]at hw;exact ZhS hw
theorem ZsE {s:Zac} (hw:ZdN s=0) (hn:s.nmi=false) (ha:askM s=false):s.T+Zba (opS s)≤20000:=by
 unfold ZdN at hw
 rw[hn,if_neg (by simp)]at hw
 split at hw
 ·omega
 rw[if_neg (by rw[ha];simp)]at hw
 split at hw
 ·omega
 split at hw
 ·omega
 split at hw
 ·omega
 split at hw
 ·omega
 exact ZhS hw
theorem ZmT (s:Zac) (n:Int) (ht:0≤s.T) (hn:0≤n) (htn:s.T+n≤20000) (h0:0≤s.steps) (h1:s.steps≤20000):
  (bif ltI 127 s.ctrl then (r239 (s.T,(wI (s.T+n),()))).bind (fun r=>some (((true,()):Bool×Unit),(({s with T:=wI (s.T+n),nmi:=r.1.1,steps:=wI (s.steps+1)}:Zac).t,())))
   else some ((true,()),(({s with T:=wI (s.T+n),nmi:=false,steps:=wI (s.steps+1)}:Zac).t,())))=some ((true,()),((endS s.T (s,n)).t,())):=by
 rw[Zau (x:=s.T+n) (by omega) (by omega),Zau (x:=s.steps+1) (by omega) (by omega),Zky s.T (s.T+n) (by omega) (by omega)]
 unfold endS
 simp only
 cases ltI 127 s.ctrl<;>rfl
theorem Zsp (s:Zac) (h:Zaz s) (hw:ZdN s≠0):r213 (s.t,())=some ((false,()),(s.t,())):=by
 unfold r213 m213
 refine Zaa (ZoP s h) ?_
 show (bif neI (ZdN s) 0 then _ else _)=_
 rw[Zdh hw];rfl
theorem Zsq (s:Zac) (h:Zaz s) (hr:Room s) (hw:ZdN s=0):r213 (s.t,())=some ((true,()),((Zso s).t,())):=by
 have ht:=h.t
 have hst:=h.steps
 unfold r213 m213
 refine Zaa (ZoP s h) ?_
 show (bif neI (ZdN s) 0 then _ else _)=_
 rw[ZdJ hw,cond_false]
 refine Zaa (Zlo s h) ?_
 unfold Zso
 cases hm:ZjE s with
 |true=>
  have hl:Zbi s=Zfg s s.snd.apu.irq:=by unfold Zbi;rw[hm,if_pos rfl]
  have hn:s.nmi=false:=by
   unfold ZjE at hm
   cases hn:s.nmi with
   |true=>rw[hn]at hm;cases hm
   |false=>rfl
  have hL:Zaz (Zfg s s.snd.apu.irq):=hl▸Zo6 h
  rw[hl,cond_true]
  refine Zaa (Zl3 s s.snd.apu.irq) ?_
  show (bif s.nmi then _ else _)=_
  rw[hn,cond_false]
  refine Zaa (ZfU (Zfg s s.snd.apu.irq) hL) ?_
  have ea:=ZmF s hn
  rw[hl]at ea
  unfold Zrn
  rw[show (Zfg s s.snd.apu.irq).nmi=false from hn,if_neg (by simp),show (Zfg s s.snd.apu.irq).cpu.i=s.cpu.i from rfl,←ea]
  have ek:askM s=askM (Zfg s s.snd.apu.irq):=by rw[ea,←hl];exact (Zoe s hn).symm
  cases ha:askM (Zfg s s.snd.apu.irq)with
  |true=>
   rw[if_pos rfl]
   rw[cond_true]
   refine Zaa (Zfu (Zfg s s.snd.apu.irq) 65534 hL (by decide)) ?_
   exact ZmT (Zlc (Zfg s s.snd.apu.irq) 65534) 7 ht.1 (by decide) (show s.T+7≤20000 from Zh7 hw (.inr (ek.trans ha))) hst.1 (show s.steps≤20000 by omega)
  |false=>
   rw[if_neg (by simp),cond_false]
   have hq:=Zpw h hw hn (ek.trans ha)
   have hp:=(ZtV hq).2
   have hrow:=ZjL (Zbi s)
   rw[hl]at hq hp hrow
   refine Zaa (ZrW (Zfg s s.snd.apu.irq) hq hr) ?_
   have k1:s.T+Zba (opS (Zfg s s.snd.apu.irq))≤20000:=ZsE hw hn (ek.trans ha)
   have k2:=ZfW (opS (Zfg s s.snd.apu.irq))
   generalize Zba (opS (Zfg s s.snd.apu.irq))=n at k1 k2⊢
   obtain ⟨f1,f2,f3,f4,f5,f6⟩:=hp
   obtain ⟨g1,g2,g3,g4,g5,g6⟩:=hrow
   generalize opDo (Zfg s s.snd.apu.irq)=s' at f1 f2 f3 f4 f5 f6 g1 g2 g3 g4 g5 g6⊢
   obtain ⟨img,pads,mem,cpu,pad,T,nmi,ctrl,kn,ka,st,rd,⟨⟨pT,pc,ps,pa,pp,pb,ptb,pds⟩,pcap,pl,pf⟩,⟨sa,scap,sl,ss⟩⟩:=s'
   have g1:img=s.img:=g1
   have g2:pads=s.pads:=g2
   have g3:ptb=s.pic.ppu.table:=g3
   have g4:pds=s.pic.ppu.dots:=g4
   have g5:pf=s.pic.frames:=g5
   have g6:ss=s.snd.samples:=g6
   have f3:T=s.T:=f3
   have f5:st=s.steps:=f5
   subst g1 g2 g3 g4 g5 g6 f3 f5
   exact ZmT ⟨s.img,s.pads,mem,cpu,pad,s.T,nmi,ctrl,kn,ka,s.steps,rd,⟨⟨pT,pc,ps,pa,pp,pb,s.pic.ppu.table,s.pic.ppu.dots⟩,pcap,pl,s.pic.frames⟩,⟨sa,scap,sl,s.snd.samples⟩⟩ n ht.1 (by omega) k1 hst.1 (show s.steps≤20000 by omega)
 |false=>
  have hl:Zbi s=s:=by unfold Zbi;rw[hm,if_neg (by simp)]
  rw[hl,cond_false]
  show (bif s.nmi then _ else _)=_
  unfold Zrn
  cases hn:s.nmi with
  |true=>
   rw[if_pos rfl,cond_true]
   have h2:Zaz {s with nmi:=false}:=⟨h.mem,h.pads,h.cpu,h.pic,h.snd,h.pad,h.ctrl,h.t,h.known,h.steps,h.pt,h.st,h.pl,h.sl⟩
   refine Zaa (Zfu {s with nmi:=false} 65530 h2 (by decide)) ?_
   exact ZmT (Zlc {s with nmi:=false} 65530) 7 ht.1 (by decide) (show s.T+7≤20000 from Zh7 hw (.inl hn)) hst.1 (show s.steps≤20000 by omega)
  |false=>
   rw[if_neg (by simp),cond_false]
   refine Zaa (ZfU s h) ?_
   have ea:=ZmF s hn
   rw[hl]at ea
   rw[←ea]
   cases ha:askM s with
   |true=>
    rw[if_pos rfl]
    rw[cond_true]
    refine Zaa (Zfu s 65534 h (by decide)) ?_
    exact ZmT (Zlc s 65534) 7 ht.1 (by decide) (show s.T+7≤20000 from Zh7 hw (.inr ha)) hst.1 (show s.steps≤20000 by omega)
   |false=>
    rw[if_neg (by simp),cond_false]
    have hq:=Zpw h hw hn ha
    have hp:=(ZtV hq).2
    have hrow:=ZjL (Zbi s)
    rw[hl]at hq hp hrow
    refine Zaa (ZrW s hq hr) ?_
    have k1:s.T+Zba (opS s)≤20000:=ZsE hw hn ha
    have k2:=ZfW (opS s)
    generalize Zba (opS s)=n at k1 k2⊢
    obtain ⟨f1,f2,f3,f4,f5,f6⟩:=hp
    obtain ⟨g1,g2,g3,g4,g5,g6⟩:=hrow
    generalize opDo s=s' at f1 f2 f3 f4 f5 f6 g1 g2 g3 g4 g5 g6⊢
    obtain ⟨img,pads,mem,cpu,pad,T,nmi,ctrl,kn,ka,st,rd,⟨⟨pT,pc,ps,pa,pp,pb,ptb,pds⟩,pcap,pl,pf⟩,⟨sa,scap,sl,ss⟩⟩:=s'
    have g1:img=s.img:=g1
    have g2:pads=s.pads:=g2
    have g3:ptb=s.pic.ppu.table:=g3
    have g4:pds=s.pic.ppu.dots:=g4
    have g5:pf=s.pic.frames:=g5
    have g6:ss=s.snd.samples:=g6
    have f3:T=s.T:=f3
    have f5:st=s.steps:=f5
    subst g1 g2 g3 g4 g5 g6 f3 f5
    exact ZmT ⟨s.img,s.pads,mem,cpu,pad,s.T,nmi,ctrl,kn,ka,s.steps,rd,⟨⟨pT,pc,ps,pa,pp,pb,s.pic.ppu.table,s.pic.ppu.dots⟩,pcap,pl,s.pic.frames⟩,⟨sa,scap,sl,s.snd.samples⟩⟩ n ht.1 (by omega) k1 hst.1 (show s.steps≤20000 by omega)
theorem ZnW (s:Zac) (h:Zaz s) (hr:Room s):r147 (s.t,())=some ((s.t,()),()):=Zfn s.t (h.s (by unfold Room at hr;omega))
theorem Zl0 (s:Zac) (h:Zaz s) (hr:Room s):r16 (s.t,())=some ((true,()),()):=by
 rw[Za4 s.t (h.s (by unfold Room at hr;omega)),ZaO.2 h]
def ZgH (s:Zac):Zac:=if ZdN s=0 then Zso s else s
def ZpE (s:Zac):Bool:=decide (ZdN s=0)
theorem Zkf (s:Zac) (h:Zaz s) (hr:Room s):r213 (s.t,())=some ((ZpE s,()),((ZgH s).t,())):=by
 unfold ZgH ZpE
 by_cases hw:ZdN s=0
 ·rw[if_pos hw,decide_eq_true hw];exact Zsq s h hr hw
 ·rw[if_neg hw,decide_eq_false hw];exact Zsp s h hw
theorem ZfK (s:Zac):Zcj s (ZgH s):=by
 unfold ZgH
 split
 ·exact ZqQ s
 ·exact .rfl' s
def ZcH (s:Zac) (who:Int):Zac:=(ZqF s who).getD s
def ZcU (s:Zac) (who:Int):Bool:=(ZqF s who).isSome
theorem Zpp (s:Zac):ZcH s 0=ZgH s∧ZcU s 0=ZpE s:=by
 unfold ZcH ZcU ZqF ZgH ZpE
 rw[if_pos rfl]
 by_cases hw:ZdN s=0
 ·rw[if_pos hw,if_pos hw,decide_eq_true hw];exact ⟨rfl,rfl⟩
 ·rw[if_neg hw,if_neg hw,decide_eq_false hw];exact ⟨rfl,rfl⟩
theorem Zpq (s:Zac):ZcH s 1={s with pic:=(Za2 s.pic s.T).getD s.pic}∧ZcU s 1=(Za2 s.pic s.T).isSome:=by
 unfold ZcH ZcU ZqF
 rw[if_neg (by decide),if_pos rfl]
 cases Za2 s.pic s.T<;>exact ⟨rfl,rfl⟩
theorem Zpr (s:Zac):ZcH s 2={s with snd:=(Za3 s.snd s.T).getD s.snd}∧ZcU s 2=(Za3 s.snd s.T).isSome:=by
 unfold ZcH ZcU ZqF
 rw[if_neg (by decide),if_neg (by decide),if_pos rfl]
 cases Za3 s.snd s.T<;>exact ⟨rfl,rfl⟩
theorem Zr0 (s:Zac) {who:Int} (h0:who≠0) (h1:who≠1) (h2:who≠2):ZcH s who=s∧ZcU s who=false:=by
 unfold ZcH ZcU ZqF
 rw[if_neg h0,if_neg h1,if_neg h2]
 exact ⟨rfl,rfl⟩
theorem ZuL (s:Zac) (who:Int) (h:Zaz s) (hr:Room s):r182 (s.t,(who,()))=some ((ZcU s who,()),((ZcH s who).t,())):=by
 unfold r182 m182
 show (bif eqI who 0 then _ else bif eqI who 1 then _ else bif eqI who 2 then _ else _)=_
 by_cases c0:who=0
 ·subst c0
  rw[(Zpp s).1,(Zpp s).2,Zav rfl,cond_true]
  refine Zaa (Zkf s h hr) ?_
  obtain ⟨g1,g2,g3,g4,g5,g6⟩:=ZfK s
  generalize ZgH s=s' at g1 g2 g3 g4 g5 g6⊢
  obtain ⟨img,pads,mem,cpu,pad,T,nmi,ctrl,kn,ka,st,rd,⟨⟨pT,pc,ps,pa,pp,pb,ptb,pds⟩,pcap,pl,pf⟩,⟨sa,scap,sl,ss⟩⟩:=s'
  have g1:img=s.img:=g1
  have g2:pads=s.pads:=g2
  have g3:ptb=s.pic.ppu.table:=g3
  have g4:pds=s.pic.ppu.dots:=g4
  have g5:pf=s.pic.frames:=g5
  have g6:ss=s.snd.samples:=g6
  subst g1 g2 g3 g4 g5 g6
  rfl
 rw[Zaq c0,cond_false]
 by_cases c1:who=1
 ·subst c1
  rw[(Zpq s).1,(Zpq s).2,Zav rfl,cond_true]
  exact Zaa (Zls s.pic s.T h.pic) rfl
 rw[Zaq c1,cond_false]
 by_cases c2:who=2
 ·subst c2
  rw[(Zpr s).1,(Zpr s).2,Zav rfl,cond_true]
  exact Zaa (Zlw s.snd s.T h.snd) rfl
 ·rw[Zaq c2,cond_false,(Zr0 s c0 c1 c2).1,(Zr0 s c0 c1 c2).2]
def ZpC:Tup ZbF:=([],([],([],(0,(0,(0,(0,(0,(false,(false,(false,(false,(false,(0,(0,(false,(0,(false,(0,(0,([],(0,(0,(0,(0,(0,(false,([],([],(0,([],([],(0,(0,(0,(0,(0,(false,(false,(0,([],([],()))))))))))))))))))))))))))))))))))))))))))
theorem Zty {s:Zac} (h:Zaz s) (hr:Room s):ZaG s.t:=h.s (by unfold Room at hr;omega)
def Zf7 (s:Zac) (who:Int):Tup ZbF×Bool:=if ZaV s.t then ((ZcH s who).t,ZcU s who)else (ZpC,false)
theorem Zqk (s:Zac) (who:Int) (hs:ZaG s.t) (hr:Room s):r149 (s.t,(who,()))=some (((Zf7 s who).1,((Zf7 s who).2,())),()):=by
 unfold Zf7
 cases ho:ZaV s.t with
 |false=>
  unfold r149 m149
  exact Zaa (by rw[Za4 s.t hs,ho]) rfl
 |true=>
  have h:=ZaO.1 ho
  unfold r149 m149
  rw[if_pos rfl]
  refine Zaa (Zl0 s h hr) (Zaa (ZnW s h hr) (Zaa (ZuL s who h hr) ?_))
  have hg:(ZcH s who).img=s.img∧(ZcH s who).pads=s.pads:=by
   by_cases c0:who=0
   ·subst c0;rw[(Zpp s).1];exact ⟨(ZfK s).img,(ZfK s).pads⟩
   by_cases c1:who=1
   ·subst c1;rw[(Zpq s).1];exact ⟨rfl,rfl⟩
   by_cases c2:who=2
   ·subst c2;rw[(Zpr s).1];exact ⟨rfl,rfl⟩
   ·rw[(Zr0 s c0 c1 c2).1];exact ⟨rfl,rfl⟩
  obtain ⟨g1,g2⟩:=hg
  generalize ZcH s who=s' at g1 g2⊢
  obtain ⟨img,pads,mem,cpu,pad,T,nmi,ctrl,kn,ka,st,rd,pc,sn⟩:=s'
  have g1:img=s.img:=g1
  have g2:pads=s.pads:=g2
  subst g1 g2
  rfl
theorem Ztd (s:Zac) (h:Zaz s):r148 (s.t,())=some ((),((Zet s).t,())):=by
 unfold r148 m148
 exact Zaa (Zov s.pic s.T h.pic) (Zaa (ZoG s.snd s.T h.snd) rfl)
def Zfc (s:Zac):Zac:=if ZaV s.t then Zet s else s
theorem Zjq (s:Zac) (hs:ZaG s.t) (hr:Room s):r107 (s.t,())=some (((Zfc s).t,()),()):=by
 unfold r107 m107 Zfc
 refine Zaa (Zfn s.t hs) (Zaa (Za4 s.t hs) ?_)
 show (bif ZaV s.t then _ else _)=_
 cases ho:ZaV s.t with
 |true=>exact Zaa (Ztd s (ZaO.1 ho)) rfl
 |false=>rfl
theorem Zo7 {s:Zac} (h:Zaz s):Zfc s=Zet s:=by
 unfold Zfc
 rw[ZaO.2 h,if_pos rfl]
def ZiA (n:Int):Nat:=(if n<3000 then n else 3000).toNat
theorem Zpc (n:Int):ZiA n≤3000:=by unfold ZiA;split<;>omega
theorem ZtS (n:Int):mnI n 3000=if n<3000 then n else 3000:=by
 unfold mnI
 by_cases h:n<3000
 ·rw[if_neg (by omega),if_pos h]
 ·rw[if_neg h]
  split<;>omega
def Zmy (s:Zac):List Int:=((if (Zf7 s 0).2 then [0]else [])++(if (Zf7 s 1).2 then [1]else []))++(if (Zf7 s 2).2 then [2]else [])
theorem Zea (s:Zac) (hs:ZaG s.t) (hr:Room s) (k:Nat) (i:Nat) (l:List Int) (hi:i≤2) (hl:l.length≤3):
  n108_0 r149 (k+1) () (s.t,()) (l,((i:Int),()))=n108_0 r149 k () (s.t,()) (l++(if (Zf7 s (i:Int)).2 then [(i:Int)]else []),(((i+1:Nat):Int),())):=by
 have e0:n108_0 r149 (k+1) () (s.t,()) (l,((i:Int),()))=bif leI (i:Int) 2 then (r149 (s.t,((i:Int),()))).bind (fun r0=>bif r0.1.2.1 then (bif leN (l.length+1) (E.most .i)then n108_0 r149 k () (s.t,()) (l++[(i:Int)],(wI ((i:Int)+1),()))else none)else n108_0 r149 k () (s.t,()) (l,(wI ((i:Int)+1),())))else some (Sum.inl (l,((i:Int),())),(s.t,())):=rfl
 rw[e0,Zao (by omega),cond_true,Zqk s (i:Int) hs hr,Option.bind_some,ZaW (by omega),Zc5 (by simp only[E.most];omega)]
 cases (Zf7 s (i:Int)).2 with
 |true=>rfl
 |false=>simp
theorem Zqj (s:Zac) (hs:ZaG s.t) (hr:Room s):r108 (s.t,())=some ((Zmy s,()),()):=by
 obtain ⟨f,hf⟩: ∃f,fuel=f+4:=⟨fuel-4,by have:=Zat;omega⟩
 unfold r108 m108 L108_0
 rw[hf]
 have l0: ∀b:Bool,∀x:Int,(if b then [x]else []).length≤1:=fun b x=>by cases b<;>simp
 have r0:=Zea s hs hr (f+3) 0 [] (by omega) (by decide)
 have r1:=Zea s hs hr (f+2) 1 ([]++(if (Zf7 s 0).2 then [(0:Int)]else [])) (by omega) (by have:=l0 (Zf7 s 0).2 0;simp only[List.nil_append];omega)
 have r2:=Zea s hs hr (f+1) 2 (([]++(if (Zf7 s 0).2 then [(0:Int)]else []))++(if (Zf7 s 1).2 then [(1:Int)]else [])) (by omega) (by have:=l0 (Zf7 s 0).2 0;have:=l0 (Zf7 s 1).2 1;simp only[List.nil_append,List.length_append];omega)
 have r3:n108_0 r149 (f+1) () (s.t,()) (Zmy s,((3:Int),()))=some (Sum.inl (Zmy s,((3:Int),())),(s.t,())):=rfl
 exact Zaa (r0.trans (r1.trans (r2.trans r3))) rfl
def ZtI (s:Zac):Int:=if ZaV s.t then ZdN s else 6
theorem Zql (s:Zac) (hs:ZaG s.t):r109 (s.t,())=some ((ZtI s,()),()):=by
 unfold r109 m109 ZtI
 refine Zaa (Za4 s.t hs) ?_
 show (bif !ZaV s.t then _ else _)=_
 cases ho:ZaV s.t with
 |false=>rfl
 |true=>exact Zaa (ZoP s (ZaO.1 ho)) rfl
theorem Zo8 {s:Zac} (hs:ZaG s.t) (hr:Room s):ZaG (Zfc s).t∧Room (Zfc s):=by
 unfold Zfc
 cases ho:ZaV s.t with
 |false=>exact ⟨hs,hr⟩
 |true=>exact ⟨Zty (ZiK (ZaO.1 ho)).1 hr,hr⟩
def ZmA (s:Zac):Bool:=ZaV s.t&&(ltI 0 ((Zmy s).length:Int)||eqI (ZtI (Zfc s)) 5)
theorem Ziw (s:Zac) (hs:ZaG s.t) (hr:Room s):r57 (s.t,())=some ((ZmA s,()),()):=by
 obtain ⟨l1,l2⟩:=Zo8 hs hr
 unfold r57 m57 ZmA
 refine Zaa (Za4 s.t hs) ?_
 show (bif ZaV s.t then _ else _)=_
 cases ZaV s.t with
 |false=>rfl
 |true=>
  refine Zaa (Zqj s hs hr) ?_
  show (bif ltI 0 ((Zmy s).length:Int)then _ else _)=_
  cases ltI 0 ((Zmy s).length:Int)with
  |true=>rfl
  |false=>exact Zaa (Zjq s hs hr) (Zaa (Zql (Zfc s) l1) rfl)

end Go.Proofs.YtmlahgmhbdpkjaaGreatDoor.Plain
