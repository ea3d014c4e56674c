/- Plain laws of the printed functions: StepI, StepJ, PlayI, FairI. No condition beyond those that each lemma states. -/
import Derived.Test.YtleidaafbhojfaaGreatDoorPC
set_option linter.unusedVariables false
set_option linter.unusedSimpArgs false
namespace Go.Proofs.YtleidaafbhojfaaGreatDoor.Plain
open Go Go.Tev
def Room (s:Zac):Prop:=s.reads.length≤4398046511000
theorem Zom (s:Zac) (b:Bool):r198 (s.t,(b,()))=some ((),((ZdC s b).t,())):=rfl
theorem ZjF (s:Zac) (b:Bool):r241 (s.t,(b,()))=some (((ZdC s b).t,()),()):=rfl
theorem Zp8 (s:Zac) (a:Int) (h:Zar s) (hr:Room s):r263 (s.t,(a,()))=some ((ZhU s a,()),((Zfa s a).t,())):=by
 unfold Room at hr
 have hl:leN (s.reads.length+1) (E.most .i)=true:=Zbn (by simp only[E.most];omega)
 unfold r263 m263 Zfa ZhU
 refine Zaa (ZbK (a,())) ?_
 show (bif eqI (rgT a).1 2 then _ else bif eqI (rgT a).1 3 then _ else bif eqI (rgT a).1 4 then _ else bif eqI (rgT a).1 7 then _ else _)=_
 by_cases c2:(rgT a).1=2
 ·rw[Zao c2,if_pos c2,if_pos c2,cond_true]
  refine Zaa (Zu1 s.pic.ppu h.pic.ppu (rgT a).2) ?_
  obtain ⟨e1,e2⟩:=Zhw s.pic.ppu (rgT a).2
  generalize Ze9 s.pic.ppu (rgT a).2=q at e1 e2⊢
  obtain ⟨T,c,sc,ad,pal,bl,tb,ds⟩:=q
  have e1:tb=s.pic.ppu.table:=e1
  have e2:ds=s.pic.ppu.dots:=e2
  subst e1 e2
  show (bif leN (s.reads.length+1) (E.most .i)then _ else none)=_
  rw[hl];rfl
 rw[Zag c2,if_neg c2,if_neg c2,cond_false]
 by_cases c3:(rgT a).1=3
 ·rw[Zao c3,if_pos c3,if_pos c3,cond_true]
  refine Zaa (ZhM s.snd.apu h.snd.apu (rgT a).2) ?_
  show (bif eqI (rgT a).2 2 then _ else _)=_
  by_cases a2:(rgT a).2=2
  ·rw[Zao a2,if_pos a2,cond_true]
   refine Zaa (Zom {s with snd:={s.snd with apu:=ZgV s.snd.apu (rgT a).2}} false) ?_
   show (bif leN (s.reads.length+1) (E.most .i)then _ else none)=_
   rw[hl];rfl
  ·rw[Zag a2,if_neg a2]
   show (bif leN (s.reads.length+1) (E.most .i)then _ else none)=_
   rw[hl];rfl
 rw[Zag c3,if_neg c3,if_neg c3,cond_false]
 by_cases c4:(rgT a).1=4
 ·rw[Zao c4,if_pos c4,if_pos c4,cond_true]
  refine Zaa (ZhN s.pad s.pads s.T h.pads h.t) ?_
  show (bif leN (s.reads.length+1) (E.most .i)then _ else none)=_
  rw[hl];rfl
 rw[Zag c4,if_neg c4,if_neg c4,cond_false]
 by_cases c7:(rgT a).1=7
 ·have hz:Zba s.img s.mem a=0:=by
   unfold Zba
   rw[if_neg (by omega),if_neg (by omega),if_neg (by omega)]
  rw[Zao c7,hz];rfl
 ·rw[Zag c7,cond_false]
  exact Zaa (ZbJ s.img s.mem a h.mem) rfl
theorem Zs6 (s:Zac) (a:Int) (h:Zar s) (hr:Room s):r242 (s.t,(a,()))=some (((Zfa s a).t,(ZhU s a,())),()):=by
 unfold Room at hr
 have hl:leN (s.reads.length+1) (E.most .i)=true:=Zbn (by simp only[E.most];omega)
 unfold r242 m242 Zfa ZhU
 refine Zaa (Zbs (a,())) ?_
 show (bif eqI (rgT a).1 2 then _ else bif eqI (rgT a).1 3 then _ else bif eqI (rgT a).1 4 then _ else _)=_
 by_cases c2:(rgT a).1=2
 ·rw[Zao c2,if_pos c2,if_pos c2,cond_true]
  refine Zaa (ZhZ s.pic.ppu h.pic.ppu (rgT a).2) ?_
  show (bif leN (s.reads.length+1) (E.most .i)then _ else none)=_
  rw[hl];rfl
 rw[Zag c2,if_neg c2,if_neg c2,cond_false]
 by_cases c3:(rgT a).1=3
 ·rw[Zao c3,if_pos c3,if_pos c3,cond_true]
  refine Zaa (ZhW s.snd.apu h.snd.apu (rgT a).2) ?_
  show (bif eqI (rgT a).2 2 then _ else _)=_
  by_cases a2:(rgT a).2=2
  ·rw[Zao a2,if_pos a2,cond_true]
   refine Zaa (ZjF {s with snd:={s.snd with apu:=ZgV s.snd.apu (rgT a).2}} false) ?_
   show (bif leN (s.reads.length+1) (E.most .i)then _ else none)=_
   rw[hl];rfl
  ·rw[Zag a2,if_neg a2]
   show (bif leN (s.reads.length+1) (E.most .i)then _ else none)=_
   rw[hl];rfl
 rw[Zag c3,if_neg c3,if_neg c3,cond_false]
 by_cases c4:(rgT a).1=4
 ·rw[Zao c4,if_pos c4,if_pos c4,cond_true]
  refine Zaa (ZhY s.pad s.pads s.T h.pads h.t) ?_
  show (bif leN (s.reads.length+1) (E.most .i)then _ else none)=_
  rw[hl];rfl
 rw[Zag c4,if_neg c4,if_neg c4,cond_false]
 exact Zaa (Zg8 s.img s.mem a h.mem) rfl
theorem ZlV {s:Zac} (h:Zar s):s.pic.list.length≤16∧s.snd.list.length≤16:=by
 have h1:=h.pic.ring.len
 have h2:=h.pic.ring.c1
 have h3:=h.snd.ring.len
 have h4:=h.snd.ring.c1
 omega
theorem ZoJ (s:Zac) (a v:Int) (h:Zar s) (hv:0≤v∧v≤255):r264 (s.t,(a,(v,())))=some ((),((ZcB s a v).t,())):=by
 obtain ⟨l1,l2⟩:=ZlV h
 have hl1:leN (s.pic.list.length+1) (E.most .t)=true:=Zbn (by simp only[E.most];omega)
 have hl2:leN (s.snd.list.length+1) (E.most .t)=true:=Zbn (by simp only[E.most];omega)
 have k:r316 (v,())=some ((v,()),()):=by
  rw[ZaZ (v,())]
  show some ((v%256,()),())=_
  rw[show v%256=v by omega]
 unfold r264 m264 ZcB
 refine Zaa (ZbK (a,())) (Zaa k ?_)
 show (bif eqI (rgT a).1 2 then _ else bif eqI (rgT a).1 3 then _ else bif eqI (rgT a).1 4 then _ else bif eqI (rgT a).1 1 then _ else bif eqI (rgT a).1 5 then _ else bif eqI (rgT a).1 6 then _ else _)=_
 by_cases c2:(rgT a).1=2
 ·rw[Zao c2,if_pos c2]
  show (bif leN (s.pic.list.length+1) (E.most .t)then (bif eqI (rgT a).2 0 then _ else _)else none)=_
  rw[hl1]
  by_cases a0:(rgT a).2=0
  ·rw[Zao a0,if_pos a0];rfl
  ·rw[Zag a0,if_neg a0];rfl
 rw[Zag c2,if_neg c2,cond_false]
 by_cases c3:(rgT a).1=3
 ·rw[Zao c3,if_pos c3]
  show (bif leN (s.snd.list.length+1) (E.most .t)then (bif eqI (rgT a).2 3 then _ else bif eqI (rgT a).2 2 then (bif eqI (Int.tmod v 2) 0 then _ else _)else _)else none)=_
  rw[hl2,cond_true,ZaJ hv.1]
  have kn:=Zom {s with snd:={s.snd with list:=s.snd.list++[(s.T,((rgT a).2,v))]}} false
  by_cases a3:(rgT a).2=3
  ·rw[Zao a3,if_pos (.inl a3),cond_true]
   exact Zaa kn rfl
  rw[Zag a3,cond_false]
  by_cases a2:(rgT a).2=2
  ·rw[Zao a2]
   by_cases v2:v%2=0
   ·rw[cond_true,Zao v2,if_pos (.inr ⟨a2,v2⟩),cond_true]
    exact Zaa kn rfl
   ·rw[Zag v2,if_neg (by omega)];rfl
  ·rw[Zag a2,if_neg (by omega)];rfl
 rw[Zag c3,if_neg c3,cond_false]
 by_cases c4:(rgT a).1=4
 ·rw[Zao c4,if_pos c4,cond_true]
  exact Zaa (ZgJ s.pad s.pads s.T v h.pads h.t) rfl
 rw[Zag c4,if_neg c4,cond_false]
 have kp:=ZlH s.img s.mem a v h.mem
 by_cases c1:(rgT a).1=1
 ·rw[Zao c1,cond_true]
  exact Zaa kp rfl
 rw[Zag c1,cond_false]
 by_cases c5:(rgT a).1=5
 ·rw[Zao c5,cond_true]
  exact Zaa kp rfl
 rw[Zag c5,cond_false]
 by_cases c6:(rgT a).1=6
 ·rw[Zao c6,cond_true]
  exact Zaa kp rfl
 ·rw[Zag c6,cond_false]
  have e:ZkF s.img s.mem a v=s.mem:=by
   unfold ZkF
   rw[if_neg c1,if_neg (by omega)]
  rw[e]
theorem ZqP (s:Zac) (a v:Int) (h:Zar s) (hv:0≤v∧v≤255):r243 (s.t,(a,(v,())))=some (((ZcB s a v).t,()),()):=by
 obtain ⟨l1,l2⟩:=ZlV h
 have hl1:leN (s.pic.list.length+1) (E.most .t)=true:=Zbn (by simp only[E.most];omega)
 have hl2:leN (s.snd.list.length+1) (E.most .t)=true:=Zbn (by simp only[E.most];omega)
 unfold r243 m243 ZcB
 refine Zaa (Zbs (a,())) ?_
 show (bif eqI (rgT a).1 2 then _ else bif eqI (rgT a).1 3 then _ else bif eqI (rgT a).1 4 then _ else _)=_
 by_cases c2:(rgT a).1=2
 ·rw[Zao c2,if_pos c2]
  show (bif leN (s.pic.list.length+1) (E.most .t)then (bif eqI (rgT a).2 0 then _ else _)else none)=_
  rw[hl1]
  by_cases a0:(rgT a).2=0
  ·rw[Zao a0,if_pos a0];rfl
  ·rw[Zag a0,if_neg a0];rfl
 rw[Zag c2,if_neg c2,cond_false]
 by_cases c3:(rgT a).1=3
 ·rw[Zao c3,if_pos c3]
  show (bif leN (s.snd.list.length+1) (E.most .t)then (bif eqI (rgT a).2 3 then _ else bif eqI (rgT a).2 2 then (bif eqI (Int.tmod v 2) 0 then _ else _)else _)else none)=_
  rw[hl2,cond_true,ZaJ hv.1]
  have kn:=ZjF {s with snd:={s.snd with list:=s.snd.list++[(s.T,((rgT a).2,v))]}} false
  by_cases a3:(rgT a).2=3
  ·rw[Zao a3,if_pos (.inl a3),cond_true]
   exact Zaa kn rfl
  rw[Zag a3,cond_false]
  by_cases a2:(rgT a).2=2
  ·rw[Zao a2]
   by_cases v2:v%2=0
   ·rw[cond_true,Zao v2,if_pos (.inr ⟨a2,v2⟩),cond_true]
    exact Zaa kn rfl
   ·rw[Zag v2,if_neg (by omega)];rfl
  ·rw[Zag a2,if_neg (by omega)];rfl
 rw[Zag c3,if_neg c3,cond_false]
 by_cases c4:(rgT a).1=4
 ·rw[Zao c4,if_pos c4,cond_true]
  exact Zaa (Zg7 s.pad s.pads s.T v h.pads h.t) rfl
 rw[Zag c4,if_neg c4,cond_false]
 exact Zaa (Zms s.img s.mem a v h.mem) rfl
theorem ZgL (s:Zac) (v:Int) (h:Zar s) (hv:65530≤v∧v≤65534):r199 (s.t,(v,()))=some ((),((ZlK s v).t,())):=by
 unfold r199 m199
 have e:wI (v+1)=v+1:=Zas (by omega) (by omega)
 have k:=ZbJ s.img s.mem (v+1) h.mem
 rw[←e]at k
 refine Zaa (ZbJ s.img s.mem v h.mem) (Zaa k (Zaa (Zel (Zba s.img s.mem v,(Zba s.img s.mem (wI (v+1)),()))) (Zaa (ZrD s.mem s.cpu (ZkB (Zba s.img s.mem v) (Zba s.img s.mem (wI (v+1)))) h.mem.ram h.cpu) ?_)))
 rw[e];rfl
theorem ZnG (s:Zac) (a:Int):(Zfa s a).pic.ppu.table=s.pic.ppu.table∧(Zfa s a).pic.ppu.dots=s.pic.ppu.dots∧(Zfa s a).pic.list=s.pic.list∧(Zfa s a).pic.frames=s.pic.frames∧(Zfa s a).snd.list=s.snd.list∧(Zfa s a).snd.samples=s.snd.samples:=by
 obtain ⟨e1,e2⟩:=Zhw s.pic.ppu (rgT a).2
 unfold Zfa
 repeat' split
 all_goals first|exact ⟨e1,e2,rfl,rfl,rfl,rfl⟩|exact ⟨rfl,rfl,rfl,rfl,rfl,rfl⟩
theorem ZmG (s:Zac) (a v:Int):(ZcB s a v).pic.ppu=s.pic.ppu∧(ZcB s a v).pic.frames=s.pic.frames∧(ZcB s a v).snd.samples=s.snd.samples∧(ZcB s a v).snd.apu=s.snd.apu∧(ZcB s a v).reads=s.reads:=by
 unfold ZcB
 repeat' split
 all_goals exact ⟨rfl,rfl,rfl,rfl,rfl⟩
theorem ZuK (s:Zac) (h:ZoU s) (hr:Room s):r201 (s.t,())=some ((Za0 (opS s),()),((opDo s).t,())):=by
 have hp:=h.p
 unfold r201 m201 opDo
 refine Zaa (Zhk s.img s.mem s.cpu.pc hp.mem hp.cpu.pc) (Zaa (ZdZ (opS s) (argS s) s.cpu hp.cpu (Zqu hp)) ?_)
 show (bif eqI (ZaG (opS s)) 1 then _ else bif eqI (ZaG (opS s)) 2 then _ else _)=_
 by_cases o1:ZaG (opS s)=1
 ·rw[Zao o1,if_pos o1,cond_true]
  refine Zaa (Zp8 s (adrS s) hp hr) ?_
  have hv:=Zwp hp (adrS s)
  obtain ⟨⟨f1,f2,f3,f4,f5,f6⟩,f7,f8⟩:=Zra s (adrS s)
  obtain ⟨g1,g2,g3,g4,g5,g6⟩:=ZnG s (adrS s)
  generalize ZhU s (adrS s)=v at hv⊢
  generalize Zfa s (adrS s)=s' at f1 f2 f3 f4 f5 f6 f7 f8 g1 g2 g3 g4 g5 g6⊢
  obtain ⟨img,pads,mem,cpu,pad,T,nmi,ctrl,kn,ka,st,rd,⟨⟨pT,pc,ps,pa,pp,pb,ptb,pds⟩,pcap,pl,pf⟩,⟨sa,scap,sl,ss⟩⟩:=s'
  have f1:img=s.img:=f1
  have f2:pads=s.pads:=f2
  have f7:cpu=s.cpu:=f7
  have f8:mem=s.mem:=f8
  have g1:ptb=s.pic.ppu.table:=g1
  have g2:pds=s.pic.ppu.dots:=g2
  have g3:pl=s.pic.list:=g3
  have g4:pf=s.pic.frames:=g4
  have g5:sl=s.snd.list:=g5
  have g6:ss=s.snd.samples:=g6
  subst f1 f2 f7 f8 g1 g2 g3 g4 g5 g6
  exact Zaa (Zjx s.mem s.cpu (opS s) (argS s) v hp.mem.ram hp.cpu hv) (Zaa (Zcf (opS s,())) rfl)
 rw[Zag o1,if_neg o1,cond_false]
 by_cases o2:ZaG (opS s)=2
 ·rw[Zao o2,if_pos o2,cond_true]
  have ev:accV (opS s) s.cpu.a=s.cpu.a%256:=by unfold accV;rw[if_pos o2]
  have kw:=ZoJ s (adrS s) (s.cpu.a%256) hp (mod256 _)
  rw[←ev]at kw
  refine Zaa kw ?_
  rw[ev]
  have hq:=ZoR hp (mod256 s.cpu.a) (h.room o2) (h.room' o2)
  obtain ⟨⟨f1,f2,f3,f4,f5,f6⟩,f7⟩:=ZoS s (adrS s) (s.cpu.a%256)
  obtain ⟨g1,g2,g3,g4,g5⟩:=ZmG s (adrS s) (s.cpu.a%256)
  generalize ZcB s (adrS s) (s.cpu.a%256)=s' at hq f1 f2 f3 f4 f5 f6 f7 g1 g2 g3 g4 g5⊢
  have h1:=hq.mem.ram
  have h2:=hq.cpu
  clear hq
  obtain ⟨img,pads,mem,cpu,pad,T,nmi,ctrl,kn,ka,st,rd,⟨pp,pcap,pl,pf⟩,⟨sa,scap,sl,ss⟩⟩:=s'
  have f1:img=s.img:=f1
  have f2:pads=s.pads:=f2
  have g1:pp=s.pic.ppu:=g1
  have g2:pf=s.pic.frames:=g2
  have g3:ss=s.snd.samples:=g3
  have g4:sa=s.snd.apu:=g4
  have g5:rd=s.reads:=g5
  subst f1 f2 g1 g2 g3 g4 g5
  exact Zaa (Zjx mem cpu (opS s) (argS s) 0 h1 h2 (by decide)) (Zaa (Zcf (opS s,())) rfl)
 ·rw[Zag o2,if_neg o2,cond_false]
  have ev:accV (opS s) s.cpu.a=0:=by unfold accV;rw[if_neg o2]
  have k:=Zjx s.mem s.cpu (opS s) (argS s) 0 hp.mem.ram hp.cpu (by decide)
  rw[←ev]at k
  refine Zaa k (Zaa (Zcf (opS s,())) ?_)
  rw[ev];rfl
structure ZcP (s s':Zac):Prop where
 img:s'.img=s.img
 pads:s'.pads=s.pads
 table:s'.pic.ppu.table=s.pic.ppu.table
 dots:s'.pic.ppu.dots=s.pic.ppu.dots
 frames:s'.pic.frames=s.pic.frames
 samples:s'.snd.samples=s.snd.samples
theorem ZcP.rfl' (s:Zac):ZcP s s:=⟨rfl,rfl,rfl,rfl,rfl,rfl⟩
theorem Zl3 (s:Zac):ZcP s (opDo s):=by
 unfold opDo
 split
 ·obtain ⟨⟨f1,f2,_⟩,_⟩:=Zra s (adrS s)
  obtain ⟨g1,g2,g3,g4,g5,g6⟩:=ZnG s (adrS s)
  exact ⟨f1,f2,g1,g2,g4,g6⟩
 split
 ·obtain ⟨⟨f1,f2,_⟩,_⟩:=ZoS s (adrS s) (s.cpu.a%256)
  obtain ⟨g1,g2,g3,g4,g5⟩:=ZmG s (adrS s) (s.cpu.a%256)
  refine ⟨f1,f2,?_,?_,g2,g3⟩
  ·show (ZcB s (adrS s) (s.cpu.a%256)).pic.ppu.table=_;rw[g1]
  ·show (ZcB s (adrS s) (s.cpu.a%256)).pic.ppu.dots=_;rw[g1]
 ·exact ⟨rfl,rfl,rfl,rfl,rfl,rfl⟩
theorem ZqR (s:Zac):ZcP s (ZaE s):=by
 unfold ZaE
 split<;>exact ⟨rfl,rfl,rfl,rfl,rfl,rfl⟩
theorem ZsI (s:Zac):ZcP s (Zfn s).1:=by
 unfold Zfn
 split
 ·exact ⟨rfl,rfl,rfl,rfl,rfl,rfl⟩
 split
 ·exact ⟨rfl,rfl,rfl,rfl,rfl,rfl⟩
 ·exact Zl3 s
theorem ZcP.trans {a b c:Zac} (h:ZcP a b) (k:ZcP b c):ZcP a c:=⟨k.img.trans h.img,k.pads.trans h.pads,k.table.trans h.table,k.dots.trans h.dots,k.frames.trans h.frames,k.samples.trans h.samples⟩
theorem Zty (s:Zac):ZcP s (Ziq s):=by
 have h:=(ZqR s).trans (ZsI (ZaE s))
 exact ⟨h.img,h.pads,h.table,h.dots,h.frames,h.samples⟩
theorem ZtT (t:Int):Zex t t=false:=decide_eq_false (by omega)
theorem Zk0 (s:Zac) (hn:s.nmi=false):askM (ZaE s)=((ZaE s).known&& !s.cpu.i):=by
 unfold ZaE
 cases hm:Zfy s with
 |true=>
  rw[if_pos rfl]
  unfold askM ZdC
  rw[show Zex s.T s.T=false from ZtT _]
  rfl
 |false=>
  rw[if_neg (by simp)]
  unfold Zfy at hm
  rw[hn]at hm
  unfold askM
  cases hi:s.cpu.i with
  |true=>simp
  |false=>
   rw[hi]at hm
   have hb:Zex s.knownAt s.T=false:=by simpa using hm
   rw[hb];rfl
theorem Zja {s:Zac} (h:Zar s) (hw:Zct s=0) (hn:s.nmi=false) (ha:askM s=false):ZoU (ZaE s):=by
 have hL:=ZkN h
 obtain ⟨e1,e2,e3,e4,e5,e6,e7,e8,e9,e10⟩:=ZlT s
 have eop:opS (ZaE s)=opS s:=by unfold opS;rw[e1,e2,e3]
 have earg:argS (ZaE s)=argS s:=by unfold argS;rw[e1,e2,e3]
 have eadr:adrS (ZaE s)=adrS s:=by unfold adrS;rw[eop,earg,e3]
 unfold Zct at hw
 rw[hn,if_neg (by simp)]at hw
 split at hw
 ·omega
 rw[if_neg (by rw[ha];simp)]at hw
 split at hw
 ·omega
 split at hw
 ·omega
 split at hw
 ·omega
 rename_i h3
 split at hw
 ·omega
 rename_i h4
 exact ⟨hL,fun a b=>by rw[eop]at a;rw[eadr]at b;rw[e4];rcases Int.lt_or_le (s.pic.list.length:Int) s.pic.cap with h5|h5;exact h5;exact absurd ⟨a,b,h5⟩ h3,
  fun a b=>by rw[eop]at a;rw[eadr]at b;rw[e5];rcases Int.lt_or_le (s.snd.list.length:Int) s.snd.cap with h5|h5;exact h5;exact absurd ⟨a,b,h5⟩ h4⟩
theorem Zj4 {s:Zac} (hw:Zct s=0) (hq:s.nmi=true∨askM s=true):s.T+7≤20000:=by
 unfold Zct at hw
 cases hn:s.nmi with
 |true=>rw[hn,if_pos rfl]at hw;exact Zeb hw
 |false=>
  rw[hn,if_neg (by simp)]at hw
  split at hw
  ·omega
  rcases hq with hq|hq
  ·rw[hn]at hq;cases hq
  ·rw[if_pos hq]at hw;exact Zeb hw
theorem ZvC {s:Zac} (hw:Zct s=0) (hn:s.nmi=false) (ha:askM s=false):s.T+Za0 (opS s)≤20000:=by
 unfold Zct at hw
 rw[hn,if_neg (by simp)]at hw
 split at hw
 ·omega
 rw[if_neg (by rw[ha];simp)]at hw
 split at hw
 ·omega
 split at hw
 ·omega
 split at hw
 ·omega
 split at hw
 ·omega
 exact Zeb hw
theorem Zpj (s:Zac) (n:Int) (ht:0≤s.T) (hn:0≤n) (htn:s.T+n≤20000) (h0:0≤s.steps) (h1:s.steps≤20000):
  (bif ltI 127 s.ctrl then (r202 (s.T,(wI (s.T+n),()))).bind (fun r=>some (((true,()):Bool×Unit),(({s with T:=wI (s.T+n),nmi:=r.1.1,steps:=wI (s.steps+1)}:Zac).t,())))
   else some ((true,()),(({s with T:=wI (s.T+n),nmi:=false,steps:=wI (s.steps+1)}:Zac).t,())))=some ((true,()),((endS s.T (s,n)).t,())):=by
 rw[Zas (x:=s.T+n) (by omega) (by omega),Zas (x:=s.steps+1) (by omega) (by omega),ZmM s.T (s.T+n) (by omega) (by omega)]
 unfold endS
 simp only
 cases ltI 127 s.ctrl<;>rfl
theorem Zvg (s:Zac) (h:Zar s) (hw:Zct s≠0):r121 (s.t,())=some ((false,()),(s.t,())):=by
 unfold r121 m121
 refine Zaa (Zrv s h) ?_
 show (bif neI (Zct s) 0 then _ else _)=_
 rw[Zdg hw];rfl
theorem Zvh (s:Zac) (h:Zar s) (hr:Room s) (hw:Zct s=0):r121 (s.t,())=some ((true,()),((Ziq s).t,())):=by
 have ht:=h.t
 have hst:=h.steps
 unfold r121 m121
 refine Zaa (Zrv s h) ?_
 show (bif neI (Zct s) 0 then _ else _)=_
 rw[ZcN hw,cond_false]
 refine Zaa (Znz s h) ?_
 unfold Ziq
 cases hm:Zfy s with
 |true=>
  have hl:ZaE s=ZdC s s.snd.apu.irq:=by unfold ZaE;rw[hm,if_pos rfl]
  have hn:s.nmi=false:=by
   unfold Zfy at hm
   cases hn:s.nmi with
   |true=>rw[hn]at hm;cases hm
   |false=>rfl
  have hL:Zar (ZdC s s.snd.apu.irq):=hl▸ZkN h
  rw[hl,cond_true]
  refine Zaa (Zom s s.snd.apu.irq) ?_
  show (bif s.nmi then _ else _)=_
  rw[hn,cond_false]
  refine Zaa (Zhm (ZdC s s.snd.apu.irq) hL) ?_
  have ea:=Zk0 s hn
  rw[hl]at ea
  unfold Zfn
  rw[show (ZdC s s.snd.apu.irq).nmi=false from hn,if_neg (by simp),show (ZdC s s.snd.apu.irq).cpu.i=s.cpu.i from rfl,←ea]
  have ek:askM s=askM (ZdC s s.snd.apu.irq):=by rw[ea,←hl];exact (ZlU s hn).symm
  cases ha:askM (ZdC s s.snd.apu.irq)with
  |true=>
   rw[if_pos rfl]
   rw[cond_true]
   refine Zaa (ZgL (ZdC s s.snd.apu.irq) 65534 hL (by decide)) ?_
   exact Zpj (ZlK (ZdC s s.snd.apu.irq) 65534) 7 ht.1 (by decide) (show s.T+7≤20000 from Zj4 hw (.inr (ek.trans ha))) hst.1 (show s.steps≤20000 by omega)
  |false=>
   rw[if_neg (by simp),cond_false]
   have hq:=Zja h hw hn (ek.trans ha)
   have hp:=(ZuG hq).2
   have hrow:=Zl3 (ZaE s)
   rw[hl]at hq hp hrow
   refine Zaa (ZuK (ZdC s s.snd.apu.irq) hq hr) ?_
   have k1:s.T+Za0 (opS (ZdC s s.snd.apu.irq))≤20000:=ZvC hw hn (ek.trans ha)
   have k2:=Zht (opS (ZdC s s.snd.apu.irq))
   generalize Za0 (opS (ZdC s s.snd.apu.irq))=n at k1 k2⊢
   obtain ⟨f1,f2,f3,f4,f5,f6⟩:=hp
   obtain ⟨g1,g2,g3,g4,g5,g6⟩:=hrow
   generalize opDo (ZdC s s.snd.apu.irq)=s' at f1 f2 f3 f4 f5 f6 g1 g2 g3 g4 g5 g6⊢
   obtain ⟨img,pads,mem,cpu,pad,T,nmi,ctrl,kn,ka,st,rd,⟨⟨pT,pc,ps,pa,pp,pb,ptb,pds⟩,pcap,pl,pf⟩,⟨sa,scap,sl,ss⟩⟩:=s'
   have g1:img=s.img:=g1
   have g2:pads=s.pads:=g2
   have g3:ptb=s.pic.ppu.table:=g3
   have g4:pds=s.pic.ppu.dots:=g4
   have g5:pf=s.pic.frames:=g5
   have g6:ss=s.snd.samples:=g6
   have f3:T=s.T:=f3
   have f5:st=s.steps:=f5
   subst g1 g2 g3 g4 g5 g6 f3 f5
   exact Zpj ⟨s.img,s.pads,mem,cpu,pad,s.T,nmi,ctrl,kn,ka,s.steps,rd,⟨⟨pT,pc,ps,pa,pp,pb,s.pic.ppu.table,s.pic.ppu.dots⟩,pcap,pl,s.pic.frames⟩,⟨sa,scap,sl,s.snd.samples⟩⟩ n ht.1 (by omega) k1 hst.1 (show s.steps≤20000 by omega)
 |false=>
  have hl:ZaE s=s:=by unfold ZaE;rw[hm,if_neg (by simp)]
  rw[hl,cond_false]
  show (bif s.nmi then _ else _)=_
  unfold Zfn
  cases hn:s.nmi with
  |true=>
   rw[if_pos rfl,cond_true]
   have h2:Zar {s with nmi:=false}:=⟨h.mem,h.pads,h.cpu,h.pic,h.snd,h.pad,h.ctrl,h.t,h.known,h.steps,h.pt,h.st,h.pl,h.sl⟩
   refine Zaa (ZgL {s with nmi:=false} 65530 h2 (by decide)) ?_
   exact Zpj (ZlK {s with nmi:=false} 65530) 7 ht.1 (by decide) (show s.T+7≤20000 from Zj4 hw (.inl hn)) hst.1 (show s.steps≤20000 by omega)
  |false=>
   rw[if_neg (by simp),cond_false]
   refine Zaa (Zhm s h) ?_
   have ea:=Zk0 s hn
   rw[hl]at ea
   rw[←ea]
   cases ha:askM s with
   |true=>
    rw[if_pos rfl]
    rw[cond_true]
    refine Zaa (ZgL s 65534 h (by decide)) ?_
    exact Zpj (ZlK s 65534) 7 ht.1 (by decide) (show s.T+7≤20000 from Zj4 hw (.inr ha)) hst.1 (show s.steps≤20000 by omega)
   |false=>
    rw[if_neg (by simp),cond_false]
    have hq:=Zja h hw hn ha
    have hp:=(ZuG hq).2
    have hrow:=Zl3 (ZaE s)
    rw[hl]at hq hp hrow
    refine Zaa (ZuK s hq hr) ?_
    have k1:s.T+Za0 (opS s)≤20000:=ZvC hw hn ha
    have k2:=Zht (opS s)
    generalize Za0 (opS s)=n at k1 k2⊢
    obtain ⟨f1,f2,f3,f4,f5,f6⟩:=hp
    obtain ⟨g1,g2,g3,g4,g5,g6⟩:=hrow
    generalize opDo s=s' at f1 f2 f3 f4 f5 f6 g1 g2 g3 g4 g5 g6⊢
    obtain ⟨img,pads,mem,cpu,pad,T,nmi,ctrl,kn,ka,st,rd,⟨⟨pT,pc,ps,pa,pp,pb,ptb,pds⟩,pcap,pl,pf⟩,⟨sa,scap,sl,ss⟩⟩:=s'
    have g1:img=s.img:=g1
    have g2:pads=s.pads:=g2
    have g3:ptb=s.pic.ppu.table:=g3
    have g4:pds=s.pic.ppu.dots:=g4
    have g5:pf=s.pic.frames:=g5
    have g6:ss=s.snd.samples:=g6
    have f3:T=s.T:=f3
    have f5:st=s.steps:=f5
    subst g1 g2 g3 g4 g5 g6 f3 f5
    exact Zpj ⟨s.img,s.pads,mem,cpu,pad,s.T,nmi,ctrl,kn,ka,s.steps,rd,⟨⟨pT,pc,ps,pa,pp,pb,s.pic.ppu.table,s.pic.ppu.dots⟩,pcap,pl,s.pic.frames⟩,⟨sa,scap,sl,s.snd.samples⟩⟩ n ht.1 (by omega) k1 hst.1 (show s.steps≤20000 by omega)
theorem ZjX (s:Zac) (h:ZoU s) (hr:Room s):((r171 ((s.img,()),(s.mem.t,(s.cpu.pc,())))).bind fun r0=>(r172 (r0.1.1,(s.cpu.t,()))).bind fun r1=>
  bif eqI r1.1.1 1 then (r242 (s.t,(r1.1.2.1,()))).bind (fun r2=>(r244 ((r2.1.1.2.2.1,(r2.1.1.2.2.2.1,())),((r2.1.1.2.2.2.2.1,(r2.1.1.2.2.2.2.2.1,(r2.1.1.2.2.2.2.2.2.1,(r2.1.1.2.2.2.2.2.2.2.1,(r2.1.1.2.2.2.2.2.2.2.2.1,(r2.1.1.2.2.2.2.2.2.2.2.2.1,(r2.1.1.2.2.2.2.2.2.2.2.2.2.1,(r2.1.1.2.2.2.2.2.2.2.2.2.2.2.1,())))))))),(r0.1.1,(r2.1.2.1,()))))).bind fun r3=>
    (r175 (r0.1.1.1,())).bind fun r4=>some ((((r2.1.1.1,(r2.1.1.2.1,(r3.1.1.1,(r3.1.1.2.1,(r3.1.2.1.1,(r3.1.2.1.2.1,(r3.1.2.1.2.2.1,(r3.1.2.1.2.2.2.1,(r3.1.2.1.2.2.2.2.1,(r3.1.2.1.2.2.2.2.2.1,(r3.1.2.1.2.2.2.2.2.2.1,(r3.1.2.1.2.2.2.2.2.2.2.1,r2.1.1.2.2.2.2.2.2.2.2.2.2.2.2)))))))))))),r4.1),())))
  else bif eqI r1.1.1 2 then (r243 (s.t,r1.1.2)).bind (fun r2=>(r244 ((r2.1.1.2.2.1,(r2.1.1.2.2.2.1,())),((r2.1.1.2.2.2.2.1,(r2.1.1.2.2.2.2.2.1,(r2.1.1.2.2.2.2.2.2.1,(r2.1.1.2.2.2.2.2.2.2.1,(r2.1.1.2.2.2.2.2.2.2.2.1,(r2.1.1.2.2.2.2.2.2.2.2.2.1,(r2.1.1.2.2.2.2.2.2.2.2.2.2.1,(r2.1.1.2.2.2.2.2.2.2.2.2.2.2.1,())))))))),(r0.1.1,((0:Int),()))))).bind fun r3=>
    (r175 (r0.1.1.1,())).bind fun r4=>some ((((r2.1.1.1,(r2.1.1.2.1,(r3.1.1.1,(r3.1.1.2.1,(r3.1.2.1.1,(r3.1.2.1.2.1,(r3.1.2.1.2.2.1,(r3.1.2.1.2.2.2.1,(r3.1.2.1.2.2.2.2.1,(r3.1.2.1.2.2.2.2.2.1,(r3.1.2.1.2.2.2.2.2.2.1,(r3.1.2.1.2.2.2.2.2.2.2.1,r2.1.1.2.2.2.2.2.2.2.2.2.2.2.2)))))))))))),r4.1),())))
  else (r244 (s.mem.t,(s.cpu.t,(r0.1.1,((0:Int),()))))).bind fun r3=>
    (r175 (r0.1.1.1,())).bind fun r4=>some ((((s.img,(s.pads,(r3.1.1.1,(r3.1.1.2.1,(r3.1.2.1.1,(r3.1.2.1.2.1,(r3.1.2.1.2.2.1,(r3.1.2.1.2.2.2.1,(r3.1.2.1.2.2.2.2.1,(r3.1.2.1.2.2.2.2.2.1,(r3.1.2.1.2.2.2.2.2.2.1,(r3.1.2.1.2.2.2.2.2.2.2.1,s.t.2.2.2.2.2.2.2.2.2.2.2.2)))))))))))),r4.1),())))=some (((opDo s).t,(Za0 (opS s),())),()):=by
 have hp:=h.p
 unfold opDo
 refine Zaa (ZdI s.img s.mem s.cpu.pc hp.mem hp.cpu.pc) (Zaa (Zc5 (opS s) (argS s) s.cpu hp.cpu (Zqu hp)) ?_)
 show (bif eqI (ZaG (opS s)) 1 then _ else bif eqI (ZaG (opS s)) 2 then _ else _)=_
 by_cases o1:ZaG (opS s)=1
 ·rw[Zao o1,if_pos o1,cond_true]
  refine Zaa (Zs6 s (adrS s) hp hr) ?_
  have hq:=Zu0 hp (adrS s)
  exact Zaa (Zdm (Zfa s (adrS s)).mem (Zfa s (adrS s)).cpu (opS s) (argS s) (ZhU s (adrS s)) hq.mem.ram hq.cpu) (Zaa (Zci (opS s,())) rfl)
 rw[Zag o1,if_neg o1,cond_false]
 by_cases o2:ZaG (opS s)=2
 ·rw[Zao o2,if_pos o2,cond_true]
  have ev:accV (opS s) s.cpu.a=s.cpu.a%256:=by unfold accV;rw[if_pos o2]
  have kw:=ZqP s (adrS s) (s.cpu.a%256) hp (mod256 _)
  rw[←ev]at kw
  refine Zaa kw ?_
  rw[ev]
  have hq:=ZoR hp (mod256 s.cpu.a) (h.room o2) (h.room' o2)
  exact Zaa (Zdm (ZcB s (adrS s) (s.cpu.a%256)).mem (ZcB s (adrS s) (s.cpu.a%256)).cpu (opS s) (argS s) 0 hq.mem.ram hq.cpu) (Zaa (Zci (opS s,())) rfl)
 ·rw[Zag o2,if_neg o2,cond_false]
  exact Zaa (Zdm s.mem s.cpu (opS s) (argS s) 0 hp.mem.ram hp.cpu) (Zaa (Zci (opS s,())) rfl)
theorem Zv2 (s:Zac) (h:Zar s) (hr:Room s) (hw:Zct s=0):r180 (s.t,())=some (((Zfn (ZaE s)).1.t,((Zfn (ZaE s)).2,())),()):=by
 unfold r180 m180
 show (bif s.nmi then _ else bif !s.cpu.i then _ else _)=_
 cases hn:s.nmi with
 |true=>
  have hl:ZaE s=s:=by unfold ZaE Zfy;rw[hn];rfl
  rw[hl,cond_true]
  unfold Zfn
  rw[hn,if_pos rfl]
  exact Zaa (ZdH s.img s.mem s.cpu 65530 h.mem h.cpu (by decide)) rfl
 |false=>
  rw[cond_false]
  have ea:=Zk0 s hn
  cases hi:s.cpu.i with
  |true=>
   have hm:Zfy s=false:=by unfold Zfy;rw[hi];simp
   have hl:ZaE s=s:=by unfold ZaE;rw[hm,if_neg (by simp)]
   rw[hl]at ea⊢
   unfold Zfn
   rw[hn,if_neg (by simp),hi,show (s.known&& !true)=false by simp,if_neg (by simp),show (!true)=false from rfl,cond_false]
   have ha:askM s=false:=by rw[ea,hi];simp
   have hq:=Zja h hw hn ha
   rw[hl]at hq
   exact ZjX s hq hr
  |false=>
   rw[show (!false)=true from rfl,cond_true]
   refine Zaa (Zf4 _ _ (ZlM h) h.t) ?_
   show (bif Zex s.knownAt s.T then _ else _)=_
   cases hb:Zex s.knownAt s.T with
   |true=>
    have hm:Zfy s=true:=by unfold Zfy;rw[hn,hi,hb];rfl
    have hl:ZaE s=ZdC s s.snd.apu.irq:=by unfold ZaE;rw[hm,if_pos rfl]
    have hL:Zar (ZdC s s.snd.apu.irq):=hl▸ZkN h
    rw[hl]at ea⊢
    rw[cond_true]
    refine Zaa (ZjF s s.snd.apu.irq) ?_
    show (bif s.snd.apu.irq then _ else _)=_
    unfold Zfn
    rw[show (ZdC s s.snd.apu.irq).nmi=false from hn,if_neg (by simp),show (ZdC s s.snd.apu.irq).cpu.i=false from hi,show ((ZdC s s.snd.apu.irq).known&& !false)=s.snd.apu.irq by simp[ZdC]]
    cases hk:s.snd.apu.irq with
    |true=>
     rw[cond_true,if_pos rfl]
     exact Zaa (ZdH s.img s.mem s.cpu 65534 h.mem h.cpu (by decide)) rfl
    |false=>
     rw[cond_false,if_neg (by simp)]
     rw[hk]at hl hL ea
     have ha:askM s=false:=by unfold askM;rw[hb,if_pos rfl,hk];rfl
     have hq:=Zja h hw hn ha
     rw[hl]at hq
     exact ZjX (ZdC s false) hq hr
   |false=>
    have hm:Zfy s=false:=by unfold Zfy;rw[hn,hi,hb];rfl
    have hl:ZaE s=s:=by unfold ZaE;rw[hm,if_neg (by simp)]
    rw[hl]at ea⊢
    rw[cond_false]
    show (bif s.known then _ else _)=_
    unfold Zfn
    rw[hn,if_neg (by simp),hi,show (s.known&& !false)=s.known by simp]
    cases hk:s.known with
    |true=>
     rw[cond_true,if_pos rfl]
     exact Zaa (ZdH s.img s.mem s.cpu 65534 h.mem h.cpu (by decide)) rfl
    |false=>
     rw[cond_false,if_neg (by simp)]
     have ha:askM s=false:=by rw[ea,hk];rfl
     have hq:=Zja h hw hn ha
     rw[hl]at hq
     exact ZjX s hq hr
theorem Zhp (s:Zac) (h:Zar s) (hr:Room s):r23 (s.t,())=some ((s.t,()),()):=by
 unfold Room at hr
 have h4:=h.mem.ram.len
 have h5:=h.pads.len
 have l1:leN (0+s.pads.length) (E.most .i)=true:=Zbn (by simp only[E.most];omega)
 have l2:leN (0+s.reads.length) (E.most .i)=true:=Zbn (by simp only[E.most];omega)
 unfold r23 m23
 refine Zaa (Zen s.img h.mem.img.small) ?_
 show (bif leN (0+s.pads.length) (E.most .i)then _ else none)=_
 rw[l1,cond_true]
 refine Zaa (ZiT s.mem h4) ?_
 show (bif leN (0+s.reads.length) (E.most .i)then _ else none)=_
 rw[l2,cond_true]
 exact Zaa (ZiQ s.pic h.pic) (Zaa (ZlQ s.snd h.snd) rfl)
theorem Zlb (s:Zac) (h:Zar s) (hr:Room s):r38 (s.t,())=some ((s.t,()),()):=ZcI s.t (h.s (by unfold Room at hr;omega))
theorem Zok (s:Zac) (h:Zar s) (hr:Room s):r17 (s.t,())=some ((true,()),()):=by
 rw[Zbg s.t (h.s (by unfold Room at hr;omega)),ZaD.2 h]
theorem Zjj (s:Zac) (h:Zar s) (hr:Room s):r15 (s.t,())=some ((true,()),()):=by
 rw[Za4 s.t (h.s (by unfold Room at hr;omega)),ZaD.2 h]
def ZaR (s:Zac):Zac:=if Zct s=0 then Ziq s else s
def ZeW (s:Zac):Bool:=decide (Zct s=0)
theorem ZhX (s:Zac) (h:Zar s) (hr:Room s):r99 (s.t,())=some (((ZaR s).t,(ZeW s,())),()):=by
 have ht:=h.t
 have hst:=h.steps
 unfold r99 m99 ZaR ZeW
 refine Zaa (Zjj s h hr) (Zaa (ZjG s h) ?_)
 show (bif neI (Zct s) 0 then _ else _)=_
 by_cases hw:Zct s=0
 ·rw[ZcN hw,cond_false,if_pos hw,decide_eq_true hw]
  refine Zaa (Zhp s h hr) (Zaa (Zv2 s h hr hw) ?_)
  unfold Ziq endS
  obtain ⟨p,hstep,_,h5,h6,_⟩:=Zvf h hw
  have p:=p.t
  have e1:(Ziq s).T=s.T+(Zfn (ZaE s)).2:=rfl
  rw[e1]at p h5 h6
  have w1:wI (s.T+(Zfn (ZaE s)).2)=s.T+(Zfn (ZaE s)).2:=Zas (by omega) (by omega)
  have w2:wI (s.steps+1)=s.steps+1:=Zas (by omega) (by omega)
  have e2:(Zfn (ZaE s)).1.steps=s.steps:=by
   have e3:(Zfn (ZaE s)).1.steps+1=s.steps+1:=hstep
   omega
  rw[e2]
  have kb:=ZmZ s.T (s.T+(Zfn (ZaE s)).2) ht p
  rw[←w1]at kb
  generalize Zfn (ZaE s)=d at w1 kb e2⊢
  show (bif ltI 127 d.1.ctrl then (r181 (s.T,(wI (s.T+d.2),()))).bind (fun r=>some (((({d.1 with T:=wI (s.T+d.2),nmi:=r.1.1,steps:=wI (s.steps+1)}:Zac).t,(true,())),()):(Tup ZaO×Bool×Unit)×Unit))
   else some ((({d.1 with T:=wI (s.T+d.2),nmi:=false,steps:=wI (s.steps+1)}:Zac).t,(true,())),()))=_
  rw[kb,w1,w2]
  cases ltI 127 d.1.ctrl<;>rfl
 ·rw[Zdg hw,cond_true,if_neg hw,decide_eq_false hw]
  exact Zaa (Zhp s h hr) rfl
theorem ZjZ (s:Zac) (h:Zar s) (hr:Room s):r121 (s.t,())=some ((ZeW s,()),((ZaR s).t,())):=by
 unfold ZaR ZeW
 by_cases hw:Zct s=0
 ·rw[if_pos hw,decide_eq_true hw];exact Zvh s h hr hw
 ·rw[if_neg hw,decide_eq_false hw];exact Zvg s h hw
theorem Zcj (s:Zac):ZcP s (ZaR s):=by
 unfold ZaR
 split
 ·exact Zty s
 ·exact .rfl' s
def Za7 (s:Zac) (who:Int):Zac:=(Zov s who).getD s
def Zcp (s:Zac) (who:Int):Bool:=(Zov s who).isSome
theorem ZnE (s:Zac):Za7 s 0=ZaR s∧Zcp s 0=ZeW s:=by
 unfold Za7 Zcp Zov ZaR ZeW
 rw[if_pos rfl]
 by_cases hw:Zct s=0
 ·rw[if_pos hw,if_pos hw,decide_eq_true hw];exact ⟨rfl,rfl⟩
 ·rw[if_neg hw,if_neg hw,decide_eq_false hw];exact ⟨rfl,rfl⟩
theorem ZpP (s:Zac):Za7 s 1={s with pic:=(Za8 s.pic s.T).getD s.pic}∧Zcp s 1=(Za8 s.pic s.T).isSome:=by
 unfold Za7 Zcp Zov
 rw[if_neg (by decide),if_pos rfl]
 cases Za8 s.pic s.T<;>exact ⟨rfl,rfl⟩
theorem ZpQ (s:Zac):Za7 s 2={s with snd:=(Za9 s.snd s.T).getD s.snd}∧Zcp s 2=(Za9 s.snd s.T).isSome:=by
 unfold Za7 Zcp Zov
 rw[if_neg (by decide),if_neg (by decide),if_pos rfl]
 cases Za9 s.snd s.T<;>exact ⟨rfl,rfl⟩
theorem ZpR (s:Zac) {who:Int} (h0:who≠0) (h1:who≠1) (h2:who≠2):Za7 s who=s∧Zcp s who=false:=by
 unfold Za7 Zcp Zov
 rw[if_neg h0,if_neg h1,if_neg h2]
 exact ⟨rfl,rfl⟩
theorem ZpO {s:Zac} (h:Zar s) (who:Int):Zar (Za7 s who)∧(Za7 s who).reads.length≤s.reads.length+1:=by
 unfold Za7
 cases hp:Zov s who with
 |none=>exact ⟨h,Nat.le_succ _⟩
 |some v=>exact ZxK h hp
theorem Zmt {s:Zac} (h:Zar s):Zar (ZaR s)∧(ZaR s).reads.length≤s.reads.length+1:=by
 rw[←(ZnE s).1];exact ZpO h 0
theorem ZxL (s:Zac) (who:Int) (h:Zar s) (hr:Room s):r191 (s.t,(who,()))=some ((Zcp s who,()),((Za7 s who).t,())):=by
 unfold r191 m191
 show (bif eqI who 0 then _ else bif eqI who 1 then _ else bif eqI who 2 then _ else _)=_
 by_cases c0:who=0
 ·subst c0
  rw[(ZnE s).1,(ZnE s).2,Zao rfl,cond_true]
  refine Zaa (ZjZ s h hr) ?_
  obtain ⟨g1,g2,g3,g4,g5,g6⟩:=Zcj s
  generalize ZaR s=s' at g1 g2 g3 g4 g5 g6⊢
  obtain ⟨img,pads,mem,cpu,pad,T,nmi,ctrl,kn,ka,st,rd,⟨⟨pT,pc,ps,pa,pp,pb,ptb,pds⟩,pcap,pl,pf⟩,⟨sa,scap,sl,ss⟩⟩:=s'
  have g1:img=s.img:=g1
  have g2:pads=s.pads:=g2
  have g3:ptb=s.pic.ppu.table:=g3
  have g4:pds=s.pic.ppu.dots:=g4
  have g5:pf=s.pic.frames:=g5
  have g6:ss=s.snd.samples:=g6
  subst g1 g2 g3 g4 g5 g6
  rfl
 rw[Zag c0,cond_false]
 by_cases c1:who=1
 ·subst c1
  rw[(ZpP s).1,(ZpP s).2,Zao rfl,cond_true]
  exact Zaa (ZnC s.pic s.T h.pic) rfl
 rw[Zag c1,cond_false]
 by_cases c2:who=2
 ·subst c2
  rw[(ZpQ s).1,(ZpQ s).2,Zao rfl,cond_true]
  exact Zaa (ZnI s.snd s.T h.snd) rfl
 ·rw[Zag c2,cond_false,(ZpR s c0 c1 c2).1,(ZpR s c0 c1 c2).2]
def Zve:Tup ZaO:=([],([],([],(0,(0,(0,(0,(0,(false,(false,(false,(false,(false,(0,(0,(false,(0,(false,(0,(0,([],(0,(0,(0,(0,(0,(false,([],([],(0,([],([],(0,(0,(0,(0,(0,(false,(false,(0,([],([],()))))))))))))))))))))))))))))))))))))))))))
theorem Zsg {s:Zac} (h:Zar s) (hr:Room s):Zal s.t:=h.s (by unfold Room at hr;omega)
def Zdi (s:Zac) (who:Int):Tup ZaO×Bool:=if ZaB s.t then ((Za7 s who).t,Zcp s who)else (Zve,false)
theorem Zno (s:Zac) (who:Int) (hs:Zal s.t) (hr:Room s):r117 (s.t,(who,()))=some (((Zdi s who).1,((Zdi s who).2,())),()):=by
 unfold Zdi
 cases ho:ZaB s.t with
 |false=>
  unfold r117 m117
  exact Zaa (by rw[Zbg s.t hs,ho]) rfl
 |true=>
  have h:=ZaD.1 ho
  unfold r117 m117
  rw[if_pos rfl]
  refine Zaa (Zok s h hr) (Zaa (Zlb s h hr) (Zaa (ZxL s who h hr) ?_))
  have hg:(Za7 s who).img=s.img∧(Za7 s who).pads=s.pads:=by
   by_cases c0:who=0
   ·subst c0;rw[(ZnE s).1];exact ⟨(Zcj s).img,(Zcj s).pads⟩
   by_cases c1:who=1
   ·subst c1;rw[(ZpP s).1];exact ⟨rfl,rfl⟩
   by_cases c2:who=2
   ·subst c2;rw[(ZpQ s).1];exact ⟨rfl,rfl⟩
   ·rw[(ZpR s c0 c1 c2).1];exact ⟨rfl,rfl⟩
  obtain ⟨g1,g2⟩:=hg
  generalize Za7 s who=s' at g1 g2⊢
  obtain ⟨img,pads,mem,cpu,pad,T,nmi,ctrl,kn,ka,st,rd,pc,sn⟩:=s'
  have g1:img=s.img:=g1
  have g2:pads=s.pads:=g2
  subst g1 g2
  rfl
theorem Zrk (s:Zac) (who:Int) (h:Zar s) (hr:Room s):r25 (s.t,(who,()))=some (((Za7 s who).t,(Zcp s who,())),()):=by
 unfold r25 m25
 refine Zaa (Zjj s h hr) (Zaa (Zhp s h hr) ?_)
 show (bif eqI who 0 then _ else bif eqI who 1 then _ else bif eqI who 2 then _ else _)=_
 by_cases c0:who=0
 ·subst c0
  rw[(ZnE s).1,(ZnE s).2,Zao rfl,cond_true]
  exact Zaa (ZhX s h hr) rfl
 rw[Zag c0,cond_false]
 by_cases c1:who=1
 ·subst c1
  rw[(ZpP s).1,(ZpP s).2,Zao rfl,cond_true]
  exact Zaa (Zpx s.pic s.T h.pic) rfl
 rw[Zag c1,cond_false]
 by_cases c2:who=2
 ·subst c2
  rw[(ZpQ s).1,(ZpQ s).2,Zao rfl,cond_true]
  exact Zaa (Zpy s.snd s.T h.snd) rfl
 ·rw[Zag c2,cond_false,(ZpR s c0 c1 c2).1,(ZpR s c0 c1 c2).2]
theorem ZnJ (s:Zac) (who:Int) (hs:Zal s.t) (hr:Room s):r25 (s.t,(who,()))=some (((Zdi s who).1,((Zdi s who).2,())),()):=by
 unfold Zdi
 cases ho:ZaB s.t with
 |true=>exact Zrk s who (ZaD.1 ho) hr
 |false=>
  unfold r25 m25
  exact Zaa (by rw[Za4 s.t hs,ho]) rfl
theorem ZrT (s:Zac) (h:Zar s):r119 (s.t,())=some ((),((ZaK s).t,())):=by
 unfold r119 m119
 exact Zaa (Zq7 s.pic s.T h.pic) (Zaa (Zrh s.snd s.T h.snd) rfl)
def ZcY (s:Zac):Zac:=if ZaB s.t then ZaK s else s
theorem Zpz (s:Zac) (hs:Zal s.t) (hr:Room s):r23 (s.t,())=some ((s.t,()),()):=by
 unfold Room at hr
 obtain ⟨h1,h2,h3,h4,h5,h6⟩:=hs
 have h2:s.pads.length≤4398046511104:=h2
 have h3:s.mem.t.1.length≤4398046511104:=h3
 have h62:s.snd.samples.length≤4398046511104:=h6.2
 have l1:leN (0+s.pads.length) (E.most .i)=true:=Zbn (by simp only[E.most];omega)
 have l2:leN (0+s.reads.length) (E.most .i)=true:=Zbn (by simp only[E.most];omega)
 have kp:r94 (s.pic.t,())=some ((s.pic.t,()),()):=by
  unfold r94 m94
  exact Zaa (Zep s.pic.ppu.t h5.1) (Zaa (Zho (s.pic.cap,(s.pic.list,())) h5.2.1) (Zaa (Zhn s.pic.frames h5.2.2) rfl))
 have ks:r95 (s.snd.t,())=some ((s.snd.t,()),()):=by
  unfold r95 m95
  refine Zaa (Zho (s.snd.cap,(s.snd.list,())) h6.1) ?_
  show (bif leN (0+s.snd.samples.length) (E.most .i)then _ else none)=_
  rw[Zbn (by simp only[E.most];omega)]
  rfl
 unfold r23 m23
 refine Zaa (Zen s.img h1) ?_
 show (bif leN (0+s.pads.length) (E.most .i)then _ else none)=_
 rw[l1,cond_true]
 refine Zaa (ZiS s.mem.t h3) ?_
 show (bif leN (0+s.reads.length) (E.most .i)then _ else none)=_
 rw[l2,cond_true]
 exact Zaa kp (Zaa ks rfl)
theorem Zid (s:Zac) (hs:Zal s.t) (hr:Room s):r41 (s.t,())=some (((ZcY s).t,()),()):=by
 unfold r41 m41 ZcY
 refine Zaa (ZcI s.t hs) (Zaa (Zbg s.t hs) ?_)
 show (bif ZaB s.t then _ else _)=_
 cases ho:ZaB s.t with
 |true=>exact Zaa (ZrT s (ZaD.1 ho)) rfl
 |false=>rfl
theorem Zf7 (s:Zac) (hs:Zal s.t) (hr:Room s):r26 (s.t,())=some (((ZcY s).t,()),()):=by
 unfold r26 m26 ZcY
 refine Zaa (Zpz s hs hr) (Zaa (Za4 s.t hs) ?_)
 show (bif !ZaB s.t then _ else _)=_
 cases ho:ZaB s.t with
 |true=>
  have h:=ZaD.1 ho
  exact Zaa (Zim s.pic s.T h.pic) (Zaa (ZjY s.snd s.T h.snd) rfl)
 |false=>rfl
theorem Zv9 {s:Zac} (h:Zar s):ZcY s=ZaK s:=by
 unfold ZcY
 rw[ZaD.2 h,if_pos rfl]
theorem ZeK (s:Zac):(ZaK s).reads=s.reads:=rfl
def Zb1:Nat→Zac→Zac×Nat
 |0,s=>(s,0)
 |n+1,s=>if ZeW (ZaK s)then ((Zb1 n (ZaR (ZaK s))).1,(Zb1 n (ZaR (ZaK s))).2+1)else (ZaR (ZaK s),0)
theorem Zn9: ∀{n:Nat} {s:Zac},Zar s→Zar (Zb1 n s).1∧(Zb1 n s).1.reads.length≤s.reads.length+n∧(Zb1 n s).2≤n
 |0,s,h=>⟨h,Nat.le_refl _,Nat.le_refl _⟩
 |n+1,s,h=>by
  obtain ⟨a,b⟩:=Zmt (ZiV h).1
  have b:(ZaR (ZaK s)).reads.length≤s.reads.length+1:=b
  unfold Zb1
  split
  ·obtain ⟨c,d,e⟩:=Zn9 (n:=n) a
   exact ⟨c,by show (Zb1 n (ZaR (ZaK s))).1.reads.length≤_;omega,by show (Zb1 n (ZaR (ZaK s))).2+1≤n+1;omega⟩
  ·exact ⟨a,by show (ZaR (ZaK s)).reads.length≤_;omega,Nat.zero_le _⟩
theorem Zph: ∀(n:Nat) (s:Zac),(Zb1 n s).1.img=s.img∧(Zb1 n s).1.pads=s.pads
 |0,s=>⟨rfl,rfl⟩
 |n+1,s=>by
  have hr:=Zcj (ZaK s)
  unfold Zb1
  split
  ·obtain ⟨c,d⟩:=Zph n (ZaR (ZaK s))
   exact ⟨c.trans hr.img,d.trans hr.pads⟩
  ·exact ⟨hr.img,hr.pads⟩
def Zcd (n:Int):Nat:=(if n<3000 then n else 3000).toNat
theorem Zc0 (n:Int):Zcd n≤3000:=by unfold Zcd;split<;>omega
theorem ZhS (n:Int):mnI n 3000=if n<3000 then n else 3000:=by
 unfold mnI
 by_cases h:n<3000
 ·rw[if_neg (by omega),if_pos h]
 ·rw[if_neg h]
  split<;>omega
theorem ZiM (n:Int): ∀(k i j:Nat) (s:Zac),Zar s→s.reads.length+j≤4398046511000→j<k→Zcd n=i+j→
  n43_0 r119 r121 r17 r38 k (n,()) (s.t,()) ((i:Int),())=some (Sum.inl (((i+(Zb1 j s).2:Nat):Int),()),((Zb1 j s).1.t,()))
 |0,_,_,_,_,_,h,_=>absurd h (by omega)
 |k+1,i,j,s,h,hr,hk,hm=>by
  have hb:=Zc0 n
  show (bif ltI (i:Int) (mnI n 3000)then (r119 (s.t,())).bind _ else some (Sum.inl ((i:Int),()),(s.t,())))=_
  cases j with
  |zero=>
   rw[ZhS,Zam (by unfold Zcd at hm;omega),cond_false]
   rfl
  |succ j=>
   rw[ZhS,Zaj (by unfold Zcd at hm;omega),cond_true]
   have hL:=(ZiV h).1
   have hroom:Room (ZaK s):=by unfold Room;rw[ZeK];omega
   refine Zaa (ZrT s h) (Zaa (ZjZ (ZaK s) hL hroom) ?_)
   obtain ⟨a,b⟩:=Zmt hL
   rw[ZeK]at b
   have hrow:=Zcj (ZaK s)
   have g1:(ZaR (ZaK s)).img=s.img:=hrow.img
   have g2:(ZaR (ZaK s)).pads=s.pads:=hrow.pads
   show (bif !ZeW (ZaK s)then _ else _)=_
   cases hst:ZeW (ZaK s)with
   |false=>
    have e:Zb1 (j+1) s=(ZaR (ZaK s),0):=by
     show (if ZeW (ZaK s)then _ else _)=_
     rw[hst,if_neg (by simp)]
    rw[e,Bool.not_false,cond_true]
    clear a b hrow e
    obtain ⟨_,_,g3,g4,g5,g6⟩:=Zcj (ZaK s)
    generalize ZaR (ZaK s)=s' at g1 g2 g3 g4 g5 g6⊢
    generalize hlm:ZaK s=l at g3 g4 g5 g6⊢
    obtain ⟨img,pads,mem,cpu,pad,T,nmi,ctrl,kn,ka,st,rd,⟨⟨pT,pc,ps,pa,pp,pb,ptb,pds⟩,pcap,pl,pf⟩,⟨sa,scap,sl,ss⟩⟩:=s'
    have g1:img=s.img:=g1
    have g2:pads=s.pads:=g2
    have g3:ptb=l.pic.ppu.table:=g3
    have g4:pds=l.pic.ppu.dots:=g4
    have g5:pf=l.pic.frames:=g5
    have g6:ss=l.snd.samples:=g6
    subst g1 g2 g3 g4 g5 g6
    rfl
   |true=>
    have e:Zb1 (j+1) s=((Zb1 j (ZaR (ZaK s))).1,(Zb1 j (ZaR (ZaK s))).2+1):=by
     show (if ZeW (ZaK s)then _ else _)=_
     rw[hst,if_pos rfl]
    rw[e,Bool.not_true,cond_false]
    have ih:=ZiM n k (i+1) j (ZaR (ZaK s)) a (by omega) (by omega) (by omega)
    have w2:wI ((i:Int)+1)=((i+1:Nat):Int):=ZaL (by omega)
    rw[←w2]at ih
    rw[show i+((Zb1 j (ZaR (ZaK s))).2+1)=i+1+(Zb1 j (ZaR (ZaK s))).2 by omega]
    clear a b hrow e
    obtain ⟨_,_,g3,g4,g5,g6⟩:=Zcj (ZaK s)
    generalize ZaR (ZaK s)=s' at g1 g2 g3 g4 g5 g6 ih⊢
    generalize hlm:ZaK s=l at g3 g4 g5 g6⊢
    obtain ⟨img,pads,mem,cpu,pad,T,nmi,ctrl,kn,ka,st,rd,⟨⟨pT,pc,ps,pa,pp,pb,ptb,pds⟩,pcap,pl,pf⟩,⟨sa,scap,sl,ss⟩⟩:=s'
    have g1:img=s.img:=g1
    have g2:pads=s.pads:=g2
    have g3:ptb=l.pic.ppu.table:=g3
    have g4:pds=l.pic.ppu.dots:=g4
    have g5:pf=l.pic.frames:=g5
    have g6:ss=l.snd.samples:=g6
    subst g1 g2 g3 g4 g5 g6
    exact ih
def Zpg (s:Zac) (n:Int):Tup ZaO×Int:=if ZaB s.t then ((Zb1 (Zcd n) s).1.t,((Zb1 (Zcd n) s).2:Int))else (Zve,0)
theorem Zs1 (s:Zac) (n:Int) (hs:Zal s.t) (hr:s.reads.length≤1048576):r43 (s.t,(n,()))=some (((Zpg s n).1,((Zpg s n).2,())),()):=by
 have hroom:Room s:=by unfold Room;omega
 have hb:=Zc0 n
 unfold r43 m43 Zpg
 refine Zaa (Zbg s.t hs) ?_
 show (bif !ZaB s.t then _ else _)=_
 cases ho:ZaB s.t with
 |false=>rfl
 |true=>
  have h:=ZaD.1 ho
  rw[Bool.not_true,cond_false,if_pos rfl]
  refine Zaa (Zlb s h hroom) ?_
  have k:=ZiM n fuel 0 (Zcd n) s h (by omega) (by have:=Zaq;omega) (by omega)
  simp only[Int.natCast_zero,Nat.zero_add]at k
  refine Zaa k ?_
  obtain ⟨g1,g2⟩:=Zph (Zcd n) s
  generalize Zb1 (Zcd n) s=d at g1 g2⊢
  obtain ⟨⟨img,pads,mem,cpu,pad,T,nmi,ctrl,kn,ka,st,rd,pc,sn⟩,n⟩:=d
  have g1:img=s.img:=g1
  have g2:pads=s.pads:=g2
  subst g1 g2
  rfl
theorem Zp5 (s:Zac) (h:Zar s) (hr:Room s):r26 (s.t,())=some (((ZaK s).t,()),()):=by
 have:=Zf7 s (Zsg h hr) hr
 rwa [Zv9 h]at this
theorem ZjH (n:Int):r105 (n,((3000:Int),()))=some ((mnI n 3000,()),()):=by rw[ZrP,ZhS]
theorem Zjh (n:Int) (z:Tup ZaO): ∀(k i j:Nat) (s:Zac),Zar s→s.reads.length+j≤4398046511000→j<k→Zcd n=i+j→
  (∃y,n29_0 r99 r26 r15 r23 r106 r105 k (n,()) (z,(s.t,())) ((i:Int),())=some (Sum.inr (((i+(Zb1 j s).2:Nat):Int),()),((Zb1 j s).1.t,(y,()))))∨
  (∃y m,n29_0 r99 r26 r15 r23 r106 r105 k (n,()) (z,(s.t,())) ((i:Int),())=some (Sum.inl m,(y,((Zb1 j s).1.t,())))∧(Zb1 j s).2=j)
 |0,_,_,_,_,_,h,_=>absurd h (by omega)
 |k+1,i,j,s,h,hr,hk,hm=>by
  have hb:=Zc0 n
  have e0:n29_0 r99 r26 r15 r23 r106 r105 (k+1) (n,()) (z,(s.t,())) ((i:Int),())=bif ltI (i:Int) (mnI n 3000)then (r26 (s.t,())).bind (fun r1=>(r99 (r1.1.1,())).bind fun r2=>
    bif (!r2.1.2.1)then (some ((Sum.inr ((i:Int),())),(r2.1.1,(s.t,()))))else n29_0 r99 r26 r15 r23 r106 r105 k (n,()) (z,(r2.1.1,())) ((wI ((i:Int)+(1:Int))),()))else some (Sum.inl ((i:Int),()),(z,(s.t,()))):=by
   show (r105 (n,((3000:Int),()))).bind _=_
   exact Zaa (ZjH n) rfl
  rw[e0]
  cases j with
  |zero=>
   rw[ZhS,Zam (by unfold Zcd at hm;omega),cond_false]
   exact .inr ⟨_,_,rfl,rfl⟩
  |succ j=>
   rw[ZhS,Zaj (by unfold Zcd at hm;omega),cond_true]
   have hL:=(ZiV h).1
   have hroom:Room (ZaK s):=by unfold Room;rw[ZeK];omega
   have hroom':Room s:=by unfold Room;omega
   rw[Zp5 s h hroom',Option.bind_some,ZhX (ZaK s) hL hroom,Option.bind_some]
   obtain ⟨a,b⟩:=Zmt hL
   rw[ZeK]at b
   cases hst:ZeW (ZaK s)with
   |false=>
    have e:Zb1 (j+1) s=(ZaR (ZaK s),0):=by
     show (if ZeW (ZaK s)then _ else _)=_
     rw[hst,if_neg (by simp)]
    rw[e]
    exact .inl ⟨_,rfl⟩
   |true=>
    have e:Zb1 (j+1) s=((Zb1 j (ZaR (ZaK s))).1,(Zb1 j (ZaR (ZaK s))).2+1):=by
     show (if ZeW (ZaK s)then _ else _)=_
     rw[hst,if_pos rfl]
    rw[e]
    have ih:=Zjh n z k (i+1) j (ZaR (ZaK s)) a (by omega) (by omega) (by omega)
    have w2:wI ((i:Int)+1)=((i+1:Nat):Int):=ZaL (by omega)
    rw[←w2]at ih
    rcases ih with ⟨y,ih⟩| ⟨y,m,ih,ih2⟩
    ·refine .inl ⟨y,?_⟩
     rw[show i+((Zb1 j (ZaR (ZaK s))).2+1)=i+1+(Zb1 j (ZaR (ZaK s))).2 by omega]
     exact ih
    ·exact .inr ⟨y,m,ih,by show (Zb1 j (ZaR (ZaK s))).2+1=j+1;omega⟩
theorem Ztu (s:Zac) (n:Int) (hs:Zal s.t) (hr:s.reads.length≤1048576):r29 (s.t,(n,()))=some (((Zpg s n).1,((Zpg s n).2,())),()):=by
 have hroom:Room s:=by unfold Room;omega
 have hb:=Zc0 n
 unfold r29 m29 Zpg
 refine Zaa (Za4 s.t hs) ?_
 show (bif !ZaB s.t then _ else _)=_
 cases ho:ZaB s.t with
 |false=>rfl
 |true=>
  have h:=ZaD.1 ho
  rw[Bool.not_true,cond_false,if_pos rfl]
  refine Zaa (Zhp s h hroom) ?_
  rcases Zjh n Zve fuel 0 (Zcd n) s h (by omega) (by have:=Zaq;omega) (by omega)with ⟨y,k⟩| ⟨y,m,k,k2⟩
  ·simp only[Int.natCast_zero,Nat.zero_add]at k
   exact Zaa k rfl
  ·simp only[Int.natCast_zero]at k
   refine Zaa k ?_
   refine Zaa (ZjH n) (Zaa (ZrO (mnI n 3000) 0) ?_)
   have e:(if (0:Int)<mnI n 3000 then mnI n 3000 else 0)=((Zb1 (Zcd n) s).2:Int):=by
    rw[k2,ZhS]
    unfold Zcd
    repeat' split
    all_goals omega
   rw[e]
def ZkZ (s:Zac):List Int:=((if (Zdi s 0).2 then [0]else [])++(if (Zdi s 1).2 then [1]else []))++(if (Zdi s 2).2 then [2]else [])
theorem Ze5 (s:Zac) (hs:Zal s.t) (hr:Room s) (k:Nat) (i:Nat) (l:List Int) (hi:i≤2) (hl:l.length≤3):
  n154_0 r117 (k+1) () (s.t,()) (l,((i:Int),()))=n154_0 r117 k () (s.t,()) (l++(if (Zdi s (i:Int)).2 then [(i:Int)]else []),(((i+1:Nat):Int),())):=by
 have e0:n154_0 r117 (k+1) () (s.t,()) (l,((i:Int),()))=bif leI (i:Int) 2 then (r117 (s.t,((i:Int),()))).bind (fun r0=>bif r0.1.2.1 then (bif leN (l.length+1) (E.most .i)then n154_0 r117 k () (s.t,()) (l++[(i:Int)],(wI ((i:Int)+1),()))else none)else n154_0 r117 k () (s.t,()) (l,(wI ((i:Int)+1),())))else some (Sum.inl (l,((i:Int),())),(s.t,())):=rfl
 rw[e0,Zay (by omega),cond_true,Zno s (i:Int) hs hr,Option.bind_some,ZaL (by omega),Zbn (by simp only[E.most];omega)]
 cases (Zdi s (i:Int)).2 with
 |true=>rfl
 |false=>simp
theorem Zs0 (s:Zac) (hs:Zal s.t) (hr:Room s):r154 (s.t,())=some ((ZkZ s,()),()):=by
 obtain ⟨f,hf⟩: ∃f,fuel=f+4:=⟨fuel-4,by have:=Zaq;omega⟩
 unfold r154 m154 L154_0
 rw[hf]
 have l0: ∀b:Bool,∀x:Int,(if b then [x]else []).length≤1:=fun b x=>by cases b<;>simp
 have r0:=Ze5 s hs hr (f+3) 0 [] (by omega) (by decide)
 have r1:=Ze5 s hs hr (f+2) 1 ([]++(if (Zdi s 0).2 then [(0:Int)]else [])) (by omega) (by have:=l0 (Zdi s 0).2 0;simp only[List.nil_append];omega)
 have r2:=Ze5 s hs hr (f+1) 2 (([]++(if (Zdi s 0).2 then [(0:Int)]else []))++(if (Zdi s 1).2 then [(1:Int)]else [])) (by omega) (by have:=l0 (Zdi s 0).2 0;have:=l0 (Zdi s 1).2 1;simp only[List.nil_append,List.length_append];omega)
 have r3:n154_0 r117 (f+1) () (s.t,()) (ZkZ s,((3:Int),()))=some (Sum.inl (ZkZ s,((3:Int),())),(s.t,())):=rfl
 exact Zaa (r0.trans (r1.trans (r2.trans r3))) rfl
theorem Zfc (s:Zac) (hs:Zal s.t) (hr:Room s) (k:Nat) (i:Nat) (l:List Int) (hi:i≤2) (hl:l.length≤3):
  n238_0 r25 (k+1) () (s.t,()) (l,((i:Int),()))=n238_0 r25 k () (s.t,()) (l++(if (Zdi s (i:Int)).2 then [(i:Int)]else []),(((i+1:Nat):Int),())):=by
 have e0:n238_0 r25 (k+1) () (s.t,()) (l,((i:Int),()))=bif ltI (i:Int) 3 then (r25 (s.t,((i:Int),()))).bind (fun r0=>bif r0.1.2.1 then (bif leN (l.length+1) (E.most .i)then n238_0 r25 k () (s.t,()) (l++[(i:Int)],(wI ((i:Int)+1),()))else none)else n238_0 r25 k () (s.t,()) (l,(wI ((i:Int)+1),())))else some (Sum.inl (l,((i:Int),())),(s.t,())):=rfl
 rw[e0,Zaj (by omega),cond_true,ZnJ s (i:Int) hs hr,Option.bind_some,ZaL (by omega),Zbn (by simp only[E.most];omega)]
 cases (Zdi s (i:Int)).2 with
 |true=>rfl
 |false=>simp
theorem Ztt (s:Zac) (hs:Zal s.t) (hr:Room s):r238 (s.t,())=some ((ZkZ s,()),()):=by
 obtain ⟨f,hf⟩: ∃f,fuel=f+4:=⟨fuel-4,by have:=Zaq;omega⟩
 unfold r238 m238 L238_0
 rw[hf]
 have l0: ∀b:Bool,∀x:Int,(if b then [x]else []).length≤1:=fun b x=>by cases b<;>simp
 have r0:=Zfc s hs hr (f+3) 0 [] (by omega) (by decide)
 have r1:=Zfc s hs hr (f+2) 1 ([]++(if (Zdi s 0).2 then [(0:Int)]else [])) (by omega) (by have:=l0 (Zdi s 0).2 0;simp only[List.nil_append];omega)
 have r2:=Zfc s hs hr (f+1) 2 (([]++(if (Zdi s 0).2 then [(0:Int)]else []))++(if (Zdi s 1).2 then [(1:Int)]else [])) (by omega) (by have:=l0 (Zdi s 0).2 0;have:=l0 (Zdi s 1).2 1;simp only[List.nil_append,List.length_append];omega)
 have r3:n238_0 r25 (f+1) () (s.t,()) (ZkZ s,((3:Int),()))=some (Sum.inl (ZkZ s,((3:Int),())),(s.t,())):=rfl
 exact Zaa (r0.trans (r1.trans (r2.trans r3))) rfl
def ZtI (s:Zac):Int:=if ZaB s.t then Zct s else 6
theorem Znp (s:Zac) (hs:Zal s.t):r155 (s.t,())=some ((ZtI s,()),()):=by
 unfold r155 m155 ZtI
 refine Zaa (Zbg s.t hs) ?_
 show (bif !ZaB s.t then _ else _)=_
 cases ho:ZaB s.t with
 |false=>rfl
 |true=>exact Zaa (Zrv s (ZaD.1 ho)) rfl
theorem Ztw (s:Zac) (hs:Zal s.t):r239 (s.t,())=some ((ZtI s,()),()):=by
 unfold r239 m239 ZtI
 refine Zaa (Za4 s.t hs) ?_
 show (bif !ZaB s.t then _ else _)=_
 cases ho:ZaB s.t with
 |false=>rfl
 |true=>exact Zaa (ZjG s (ZaD.1 ho)) rfl
theorem ZkO {s:Zac} (hs:Zal s.t) (hr:Room s):Zal (ZcY s).t∧Room (ZcY s):=by
 unfold ZcY
 cases ho:ZaB s.t with
 |false=>exact ⟨hs,hr⟩
 |true=>exact ⟨Zsg (ZiV (ZaD.1 ho)).1 hr,hr⟩
def ZoW (s:Zac):Bool:=ZaB s.t&&(ltI 0 ((ZkZ s).length:Int)||eqI (ZtI (ZcY s)) 5)
theorem Zkx (s:Zac) (hs:Zal s.t) (hr:Room s):r79 (s.t,())=some ((ZoW s,()),()):=by
 obtain ⟨l1,l2⟩:=ZkO hs hr
 unfold r79 m79 ZoW
 refine Zaa (Zbg s.t hs) ?_
 show (bif ZaB s.t then _ else _)=_
 cases ZaB s.t with
 |false=>rfl
 |true=>
  refine Zaa (Zs0 s hs hr) ?_
  show (bif ltI 0 ((ZkZ s).length:Int)then _ else _)=_
  cases ltI 0 ((ZkZ s).length:Int)with
  |true=>rfl
  |false=>exact Zaa (Zid s hs hr) (Zaa (Znp (ZcY s) l1) rfl)
theorem ZkG (s:Zac) (hs:Zal s.t) (hr:Room s):r179 (s.t,())=some ((ZoW s,()),()):=by
 obtain ⟨l1,l2⟩:=ZkO hs hr
 unfold r179 m179 ZoW
 refine Zaa (Za4 s.t hs) ?_
 show (bif ZaB s.t then _ else _)=_
 cases ZaB s.t with
 |false=>rfl
 |true=>
  refine Zaa (Ztt s hs hr) ?_
  show (bif ltI 0 ((ZkZ s).length:Int)then _ else _)=_
  cases ltI 0 ((ZkZ s).length:Int)with
  |true=>rfl
  |false=>exact Zaa (Zf7 s hs hr) (Zaa (Ztw (ZcY s) l1) rfl)

end Go.Proofs.YtleidaafbhojfaaGreatDoor.Plain
