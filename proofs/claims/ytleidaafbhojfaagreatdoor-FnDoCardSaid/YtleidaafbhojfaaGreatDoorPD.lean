/- Plain laws of the printed functions: StepI, StepJ, PlayI, FairI. No condition beyond those that each lemma states. -/
import Derived.Test.YtleidaafbhojfaaGreatDoorPC
set_option linter.unusedVariables false
set_option linter.unusedSimpArgs false
namespace Go.Proofs.YtleidaafbhojfaaGreatDoor.Plain
open Go Go.Tev
def ZA (s:Zc):Prop:=s.reads.length≤4398046511000
theorem Zid (s:Zc) (b:Bool):r198 (s.t,(b,()))=some ((),((Jk s b).t,())):=rfl
theorem Zd3 (s:Zc) (b:Bool):r241 (s.t,(b,()))=some (((Jk s b).t,()),()):=rfl
theorem ZjN (s:Zc) (a:Int) (h:Zq s) (hr:ZA s):r263 (s.t,(a,()))=some ((Kd s a,()),((Jz s a).t,())):=by
 unfold ZA at hr
 have hl:leN (s.reads.length+1) (E.most .i)=true:=ZO (by simp only[E.most];omega)
 unfold r263 m263 Jz Kd
 refine Za (WO (a,())) ?_
 show (bif eqI (rgT a).1 2 then _ else bif eqI (rgT a).1 3 then _ else bif eqI (rgT a).1 4 then _ else bif eqI (rgT a).1 7 then _ else _)=_
 by_cases c2:(rgT a).1=2
 ·rw[Zi c2,if_pos c2,if_pos c2,cond_true]
  refine Za (Zoc s.pic.ppu h.pic.ppu (rgT a).2) ?_
  obtain ⟨e1,e2⟩:=Zcs s.pic.ppu (rgT a).2
  generalize Jq s.pic.ppu (rgT a).2=q at e1 e2⊢
  obtain ⟨T,c,sc,ad,pal,bl,tb,ds⟩:=q
  have e1:tb=s.pic.ppu.table:=e1
  have e2:ds=s.pic.ppu.dots:=e2
  subst e1 e2
  show (bif leN (s.reads.length+1) (E.most .i)then _ else none)=_
  rw[hl];rfl
 rw[Zd c2,if_neg c2,if_neg c2,cond_false]
 by_cases c3:(rgT a).1=3
 ·rw[Zi c3,if_pos c3,if_pos c3,cond_true]
  refine Za (ZcB s.snd.apu h.snd.apu (rgT a).2) ?_
  show (bif eqI (rgT a).2 2 then _ else _)=_
  by_cases a2:(rgT a).2=2
  ·rw[Zi a2,if_pos a2,cond_true]
   refine Za (Zid {s with snd:={s.snd with apu:=JM s.snd.apu (rgT a).2}} false) ?_
   show (bif leN (s.reads.length+1) (E.most .i)then _ else none)=_
   rw[hl];rfl
  ·rw[Zd a2,if_neg a2]
   show (bif leN (s.reads.length+1) (E.most .i)then _ else none)=_
   rw[hl];rfl
 rw[Zd c3,if_neg c3,if_neg c3,cond_false]
 by_cases c4:(rgT a).1=4
 ·rw[Zi c4,if_pos c4,if_pos c4,cond_true]
  refine Za (ZcC s.pad s.pads s.T h.pads h.t) ?_
  show (bif leN (s.reads.length+1) (E.most .i)then _ else none)=_
  rw[hl];rfl
 rw[Zd c4,if_neg c4,if_neg c4,cond_false]
 by_cases c7:(rgT a).1=7
 ·have hz:ZI s.img s.mem a=0:=by
   unfold ZI
   rw[if_neg (by omega),if_neg (by omega),if_neg (by omega)]
  rw[Zi c7,hz];rfl
 ·rw[Zd c7,cond_false]
  exact Za (V9 s.img s.mem a h.mem) rfl
theorem Zmd (s:Zc) (a:Int) (h:Zq s) (hr:ZA s):r242 (s.t,(a,()))=some (((Jz s a).t,(Kd s a,())),()):=by
 unfold ZA at hr
 have hl:leN (s.reads.length+1) (E.most .i)=true:=ZO (by simp only[E.most];omega)
 unfold r242 m242 Jz Kd
 refine Za (Wt (a,())) ?_
 show (bif eqI (rgT a).1 2 then _ else bif eqI (rgT a).1 3 then _ else bif eqI (rgT a).1 4 then _ else _)=_
 by_cases c2:(rgT a).1=2
 ·rw[Zi c2,if_pos c2,if_pos c2,cond_true]
  refine Za (ZcK s.pic.ppu h.pic.ppu (rgT a).2) ?_
  show (bif leN (s.reads.length+1) (E.most .i)then _ else none)=_
  rw[hl];rfl
 rw[Zd c2,if_neg c2,if_neg c2,cond_false]
 by_cases c3:(rgT a).1=3
 ·rw[Zi c3,if_pos c3,if_pos c3,cond_true]
  refine Za (ZcH s.snd.apu h.snd.apu (rgT a).2) ?_
  show (bif eqI (rgT a).2 2 then _ else _)=_
  by_cases a2:(rgT a).2=2
  ·rw[Zi a2,if_pos a2,cond_true]
   refine Za (Zd3 {s with snd:={s.snd with apu:=JM s.snd.apu (rgT a).2}} false) ?_
   show (bif leN (s.reads.length+1) (E.most .i)then _ else none)=_
   rw[hl];rfl
  ·rw[Zd a2,if_neg a2]
   show (bif leN (s.reads.length+1) (E.most .i)then _ else none)=_
   rw[hl];rfl
 rw[Zd c3,if_neg c3,if_neg c3,cond_false]
 by_cases c4:(rgT a).1=4
 ·rw[Zi c4,if_pos c4,if_pos c4,cond_true]
  refine Za (ZcJ s.pad s.pads s.T h.pads h.t) ?_
  show (bif leN (s.reads.length+1) (E.most .i)then _ else none)=_
  rw[hl];rfl
 rw[Zd c4,if_neg c4,if_neg c4,cond_false]
 exact Za (Zb9 s.img s.mem a h.mem) rfl
theorem ZfM {s:Zc} (h:Zq s):s.pic.list.length≤16∧s.snd.list.length≤16:=by
 have h1:=h.pic.ring.len
 have h2:=h.pic.ring.c1
 have h3:=h.snd.ring.len
 have h4:=h.snd.ring.c1
 omega
theorem Ziw (s:Zc) (a v:Int) (h:Zq s) (hv:0≤v∧v≤255):r264 (s.t,(a,(v,())))=some ((),((JC s a v).t,())):=by
 obtain ⟨l1,l2⟩:=ZfM h
 have hl1:leN (s.pic.list.length+1) (E.most .t)=true:=ZO (by simp only[E.most];omega)
 have hl2:leN (s.snd.list.length+1) (E.most .t)=true:=ZO (by simp only[E.most];omega)
 have k:r316 (v,())=some ((v,()),()):=by
  rw[Y7 (v,())]
  show some ((v%256,()),())=_
  rw[show v%256=v by omega]
 unfold r264 m264 JC
 refine Za (WO (a,())) (Za k ?_)
 show (bif eqI (rgT a).1 2 then _ else bif eqI (rgT a).1 3 then _ else bif eqI (rgT a).1 4 then _ else bif eqI (rgT a).1 1 then _ else bif eqI (rgT a).1 5 then _ else bif eqI (rgT a).1 6 then _ else _)=_
 by_cases c2:(rgT a).1=2
 ·rw[Zi c2,if_pos c2]
  show (bif leN (s.pic.list.length+1) (E.most .t)then (bif eqI (rgT a).2 0 then _ else _)else none)=_
  rw[hl1]
  by_cases a0:(rgT a).2=0
  ·rw[Zi a0,if_pos a0];rfl
  ·rw[Zd a0,if_neg a0];rfl
 rw[Zd c2,if_neg c2,cond_false]
 by_cases c3:(rgT a).1=3
 ·rw[Zi c3,if_pos c3]
  show (bif leN (s.snd.list.length+1) (E.most .t)then (bif eqI (rgT a).2 3 then _ else bif eqI (rgT a).2 2 then (bif eqI (Int.tmod v 2) 0 then _ else _)else _)else none)=_
  rw[hl2,cond_true,Qt hv.1]
  have kn:=Zid {s with snd:={s.snd with list:=s.snd.list++[(s.T,((rgT a).2,v))]}} false
  by_cases a3:(rgT a).2=3
  ·rw[Zi a3,if_pos (.inl a3),cond_true]
   exact Za kn rfl
  rw[Zd a3,cond_false]
  by_cases a2:(rgT a).2=2
  ·rw[Zi a2]
   by_cases v2:v%2=0
   ·rw[cond_true,Zi v2,if_pos (.inr ⟨a2,v2⟩),cond_true]
    exact Za kn rfl
   ·rw[Zd v2,if_neg (by omega)];rfl
  ·rw[Zd a2,if_neg (by omega)];rfl
 rw[Zd c3,if_neg c3,cond_false]
 by_cases c4:(rgT a).1=4
 ·rw[Zi c4,if_pos c4,cond_true]
  exact Za (ZbV s.pad s.pads s.T v h.pads h.t) rfl
 rw[Zd c4,if_neg c4,cond_false]
 have kp:=ZfA s.img s.mem a v h.mem
 by_cases c1:(rgT a).1=1
 ·rw[Zi c1,cond_true]
  exact Za kp rfl
 rw[Zd c1,cond_false]
 by_cases c5:(rgT a).1=5
 ·rw[Zi c5,cond_true]
  exact Za kp rfl
 rw[Zd c5,cond_false]
 by_cases c6:(rgT a).1=6
 ·rw[Zi c6,cond_true]
  exact Za kp rfl
 ·rw[Zd c6,cond_false]
  have e:KF s.img s.mem a v=s.mem:=by
   unfold KF
   rw[if_neg c1,if_neg (by omega)]
  rw[e]
theorem Zkg (s:Zc) (a v:Int) (h:Zq s) (hv:0≤v∧v≤255):r243 (s.t,(a,(v,())))=some (((JC s a v).t,()),()):=by
 obtain ⟨l1,l2⟩:=ZfM h
 have hl1:leN (s.pic.list.length+1) (E.most .t)=true:=ZO (by simp only[E.most];omega)
 have hl2:leN (s.snd.list.length+1) (E.most .t)=true:=ZO (by simp only[E.most];omega)
 unfold r243 m243 JC
 refine Za (Wt (a,())) ?_
 show (bif eqI (rgT a).1 2 then _ else bif eqI (rgT a).1 3 then _ else bif eqI (rgT a).1 4 then _ else _)=_
 by_cases c2:(rgT a).1=2
 ·rw[Zi c2,if_pos c2]
  show (bif leN (s.pic.list.length+1) (E.most .t)then (bif eqI (rgT a).2 0 then _ else _)else none)=_
  rw[hl1]
  by_cases a0:(rgT a).2=0
  ·rw[Zi a0,if_pos a0];rfl
  ·rw[Zd a0,if_neg a0];rfl
 rw[Zd c2,if_neg c2,cond_false]
 by_cases c3:(rgT a).1=3
 ·rw[Zi c3,if_pos c3]
  show (bif leN (s.snd.list.length+1) (E.most .t)then (bif eqI (rgT a).2 3 then _ else bif eqI (rgT a).2 2 then (bif eqI (Int.tmod v 2) 0 then _ else _)else _)else none)=_
  rw[hl2,cond_true,Qt hv.1]
  have kn:=Zd3 {s with snd:={s.snd with list:=s.snd.list++[(s.T,((rgT a).2,v))]}} false
  by_cases a3:(rgT a).2=3
  ·rw[Zi a3,if_pos (.inl a3),cond_true]
   exact Za kn rfl
  rw[Zd a3,cond_false]
  by_cases a2:(rgT a).2=2
  ·rw[Zi a2]
   by_cases v2:v%2=0
   ·rw[cond_true,Zi v2,if_pos (.inr ⟨a2,v2⟩),cond_true]
    exact Za kn rfl
   ·rw[Zd v2,if_neg (by omega)];rfl
  ·rw[Zd a2,if_neg (by omega)];rfl
 rw[Zd c3,if_neg c3,cond_false]
 by_cases c4:(rgT a).1=4
 ·rw[Zi c4,if_pos c4,cond_true]
  exact Za (Zb8 s.pad s.pads s.T v h.pads h.t) rfl
 rw[Zd c4,if_neg c4,cond_false]
 exact Za (Zgi s.img s.mem a v h.mem) rfl
theorem ZbX (s:Zc) (v:Int) (h:Zq s) (hv:65530≤v∧v≤65534):r199 (s.t,(v,()))=some ((),((Wa s v).t,())):=by
 unfold r199 m199
 have e:wI (v+1)=v+1:=Zj (by omega) (by omega)
 have k:=V9 s.img s.mem (v+1) h.mem
 rw[←e]at k
 refine Za (V9 s.img s.mem v h.mem) (Za k (Za (ZaH (ZI s.img s.mem v,(ZI s.img s.mem (wI (v+1)),()))) (Za (Zk0 s.mem s.cpu (Kw (ZI s.img s.mem v) (ZI s.img s.mem (wI (v+1)))) h.mem.ram h.cpu) ?_)))
 rw[e];rfl
theorem Zhq (s:Zc) (a:Int):(Jz s a).pic.ppu.table=s.pic.ppu.table∧(Jz s a).pic.ppu.dots=s.pic.ppu.dots∧(Jz s a).pic.list=s.pic.list∧(Jz s a).pic.frames=s.pic.frames∧(Jz s a).snd.list=s.snd.list∧(Jz s a).snd.samples=s.snd.samples:=by
 obtain ⟨e1,e2⟩:=Zcs s.pic.ppu (rgT a).2
 unfold Jz
 repeat' split
 all_goals first|exact ⟨e1,e2,rfl,rfl,rfl,rfl⟩|exact ⟨rfl,rfl,rfl,rfl,rfl,rfl⟩
theorem Zgx (s:Zc) (a v:Int):(JC s a v).pic.ppu=s.pic.ppu∧(JC s a v).pic.frames=s.pic.frames∧(JC s a v).snd.samples=s.snd.samples∧(JC s a v).snd.apu=s.snd.apu∧(JC s a v).reads=s.reads:=by
 unfold JC
 repeat' split
 all_goals exact ⟨rfl,rfl,rfl,rfl,rfl⟩
theorem ZnV (s:Zc) (h:ZiE s) (hr:ZA s):r201 (s.t,())=some ((Qm (opS s),()),((XW s).t,())):=by
 have hp:=h.p
 unfold r201 m201 XW
 refine Za (Zci s.img s.mem s.cpu.pc hp.mem hp.cpu.pc) (Za (Zay (opS s) (QN s) s.cpu hp.cpu (Ug hp)) ?_)
 show (bif eqI (ZG (opS s)) 1 then _ else bif eqI (ZG (opS s)) 2 then _ else _)=_
 by_cases o1:ZG (opS s)=1
 ·rw[Zi o1,if_pos o1,cond_true]
  refine Za (ZjN s (Zz s) hp hr) ?_
  have hv:=ZpL hp (Zz s)
  obtain ⟨⟨f1,f2,f3,f4,f5,f6⟩,f7,f8⟩:=Zio s (Zz s)
  obtain ⟨g1,g2,g3,g4,g5,g6⟩:=Zhq s (Zz s)
  generalize Kd s (Zz s)=v at hv⊢
  generalize Jz s (Zz s)=s' at f1 f2 f3 f4 f5 f6 f7 f8 g1 g2 g3 g4 g5 g6⊢
  obtain ⟨img,pads,mem,cpu,pad,T,nmi,ctrl,kn,ka,st,rd,⟨⟨pT,pc,ps,pa,pp,pb,ptb,pds⟩,pcap,pl,pf⟩,⟨sa,scap,sl,ss⟩⟩:=s'
  have f1:img=s.img:=f1
  have f2:pads=s.pads:=f2
  have f7:cpu=s.cpu:=f7
  have f8:mem=s.mem:=f8
  have g1:ptb=s.pic.ppu.table:=g1
  have g2:pds=s.pic.ppu.dots:=g2
  have g3:pl=s.pic.list:=g3
  have g4:pf=s.pic.frames:=g4
  have g5:sl=s.snd.list:=g5
  have g6:ss=s.snd.samples:=g6
  subst f1 f2 f7 f8 g1 g2 g3 g4 g5 g6
  exact Za (ZdU s.mem s.cpu (opS s) (QN s) v hp.mem.ram hp.cpu hv) (Za (Zaa (opS s,())) rfl)
 rw[Zd o1,if_neg o1,cond_false]
 by_cases o2:ZG (opS s)=2
 ·rw[Zi o2,if_pos o2,cond_true]
  have ev:YQ (opS s) s.cpu.a=s.cpu.a%256:=by unfold YQ;rw[if_pos o2]
  have kw:=Ziw s (Zz s) (s.cpu.a%256) hp (mod256 _)
  rw[←ev]at kw
  refine Za kw ?_
  rw[ev]
  have hq:=Ze0 hp (mod256 s.cpu.a) (h.room o2) (h.room' o2)
  obtain ⟨⟨f1,f2,f3,f4,f5,f6⟩,f7⟩:=Ze1 s (Zz s) (s.cpu.a%256)
  obtain ⟨g1,g2,g3,g4,g5⟩:=Zgx s (Zz s) (s.cpu.a%256)
  generalize JC s (Zz s) (s.cpu.a%256)=s' at hq f1 f2 f3 f4 f5 f6 f7 g1 g2 g3 g4 g5⊢
  have h1:=hq.mem.ram
  have h2:=hq.cpu
  clear hq
  obtain ⟨img,pads,mem,cpu,pad,T,nmi,ctrl,kn,ka,st,rd,⟨pp,pcap,pl,pf⟩,⟨sa,scap,sl,ss⟩⟩:=s'
  have f1:img=s.img:=f1
  have f2:pads=s.pads:=f2
  have g1:pp=s.pic.ppu:=g1
  have g2:pf=s.pic.frames:=g2
  have g3:ss=s.snd.samples:=g3
  have g4:sa=s.snd.apu:=g4
  have g5:rd=s.reads:=g5
  subst f1 f2 g1 g2 g3 g4 g5
  exact Za (ZdU mem cpu (opS s) (QN s) 0 h1 h2 (by decide)) (Za (Zaa (opS s,())) rfl)
 ·rw[Zd o2,if_neg o2,cond_false]
  have ev:YQ (opS s) s.cpu.a=0:=by unfold YQ;rw[if_neg o2]
  have k:=ZdU s.mem s.cpu (opS s) (QN s) 0 hp.mem.ram hp.cpu (by decide)
  rw[←ev]at k
  refine Za k (Za (Zaa (opS s,())) ?_)
  rw[ev];rfl
structure KQ (s s':Zc):Prop where
 img:s'.img=s.img
 pads:s'.pads=s.pads
 table:s'.pic.ppu.table=s.pic.ppu.table
 dots:s'.pic.ppu.dots=s.pic.ppu.dots
 frames:s'.pic.frames=s.pic.frames
 samples:s'.snd.samples=s.snd.samples
theorem KQ.rfl' (s:Zc):KQ s s:=⟨rfl,rfl,rfl,rfl,rfl,rfl⟩
theorem ZfR (s:Zc):KQ s (XW s):=by
 unfold XW
 split
 ·obtain ⟨⟨f1,f2,_⟩,_⟩:=Zio s (Zz s)
  obtain ⟨g1,g2,g3,g4,g5,g6⟩:=Zhq s (Zz s)
  exact ⟨f1,f2,g1,g2,g4,g6⟩
 split
 ·obtain ⟨⟨f1,f2,_⟩,_⟩:=Ze1 s (Zz s) (s.cpu.a%256)
  obtain ⟨g1,g2,g3,g4,g5⟩:=Zgx s (Zz s) (s.cpu.a%256)
  refine ⟨f1,f2,?_,?_,g2,g3⟩
  ·show (JC s (Zz s) (s.cpu.a%256)).pic.ppu.table=_;rw[g1]
  ·show (JC s (Zz s) (s.cpu.a%256)).pic.ppu.dots=_;rw[g1]
 ·exact ⟨rfl,rfl,rfl,rfl,rfl,rfl⟩
theorem Zkj (s:Zc):KQ s (Zw s):=by
 unfold Zw
 split<;>exact ⟨rfl,rfl,rfl,rfl,rfl,rfl⟩
theorem ZlY (s:Zc):KQ s (JY s).1:=by
 unfold JY
 split
 ·exact ⟨rfl,rfl,rfl,rfl,rfl,rfl⟩
 split
 ·exact ⟨rfl,rfl,rfl,rfl,rfl,rfl⟩
 ·exact ZfR s
theorem KQ.trans {a b c:Zc} (h:KQ a b) (k:KQ b c):KQ a c:=⟨k.img.trans h.img,k.pads.trans h.pads,k.table.trans h.table,k.dots.trans h.dots,k.frames.trans h.frames,k.samples.trans h.samples⟩
theorem ZmG (s:Zc):KQ s (Yq s):=by
 have h:=(Zkj s).trans (ZlY (Zw s))
 exact ⟨h.img,h.pads,h.table,h.dots,h.frames,h.samples⟩
theorem ZmZ (t:Int):Jv t t=false:=decide_eq_false (by omega)
theorem Ze2 (s:Zc) (hn:s.nmi=false):Jf (Zw s)=((Zw s).known&& !s.cpu.i):=by
 unfold Zw
 cases hm:Jm s with
 |true=>
  rw[if_pos rfl]
  unfold Jf Jk
  rw[show Jv s.T s.T=false from ZmZ _]
  rfl
 |false=>
  rw[if_neg (by simp)]
  unfold Jm at hm
  rw[hn]at hm
  unfold Jf
  cases hi:s.cpu.i with
  |true=>simp
  |false=>
   rw[hi]at hm
   have hb:Jv s.knownAt s.T=false:=by simpa using hm
   rw[hb];rfl
theorem Zdu {s:Zc} (h:Zq s) (hw:QG s=0) (hn:s.nmi=false) (ha:Jf s=false):ZiE (Zw s):=by
 have hL:=ZeP h
 obtain ⟨e1,e2,e3,e4,e5,e6,e7,e8,e9,e10⟩:=ZcT s
 have eop:opS (Zw s)=opS s:=by unfold opS;rw[e1,e2,e3]
 have earg:QN (Zw s)=QN s:=by unfold QN;rw[e1,e2,e3]
 have eadr:Zz (Zw s)=Zz s:=by unfold Zz;rw[eop,earg,e3]
 unfold QG at hw
 rw[hn,if_neg (by simp)]at hw
 split at hw
 ·omega
 rw[if_neg (by rw[ha];simp)]at hw
 split at hw
 ·omega
 split at hw
 ·omega
 split at hw
 ·omega
 rename_i h3
 split at hw
 ·omega
 rename_i h4
 exact ⟨hL,fun a b=>by rw[eop]at a;rw[eadr]at b;rw[e4];rcases Int.lt_or_le (s.pic.list.length:Int) s.pic.cap with h5|h5;exact h5;exact absurd ⟨a,b,h5⟩ h3,
  fun a b=>by rw[eop]at a;rw[eadr]at b;rw[e5];rcases Int.lt_or_le (s.snd.list.length:Int) s.snd.cap with h5|h5;exact h5;exact absurd ⟨a,b,h5⟩ h4⟩
theorem Zen {s:Zc} (hw:QG s=0) (hq:s.nmi=true∨Jf s=true):s.T+7≤20000:=by
 unfold QG at hw
 cases hn:s.nmi with
 |true=>rw[hn,if_pos rfl]at hw;exact Wg hw
 |false=>
  rw[hn,if_neg (by simp)]at hw
  split at hw
  ·omega
  rcases hq with hq|hq
  ·rw[hn]at hq;cases hq
  ·rw[if_pos hq]at hw;exact Wg hw
theorem ZoR {s:Zc} (hw:QG s=0) (hn:s.nmi=false) (ha:Jf s=false):s.T+Qm (opS s)≤20000:=by
 unfold QG at hw
 rw[hn,if_neg (by simp)]at hw
 split at hw
 ·omega
 rw[if_neg (by rw[ha];simp)]at hw
 split at hw
 ·omega
 split at hw
 ·omega
 split at hw
 ·omega
 split at hw
 ·omega
 exact Wg hw
theorem ZiY (s:Zc) (n:Int) (ht:0≤s.T) (hn:0≤n) (htn:s.T+n≤20000) (h0:0≤s.steps) (h1:s.steps≤20000):
  (bif ltI 127 s.ctrl then (r202 (s.T,(wI (s.T+n),()))).bind (fun r=>some (((true,()):Bool×Unit),(({s with T:=wI (s.T+n),nmi:=r.1.1,steps:=wI (s.steps+1)}:Zc).t,())))
   else some ((true,()),(({s with T:=wI (s.T+n),nmi:=false,steps:=wI (s.steps+1)}:Zc).t,())))=some ((true,()),((WJ s.T (s,n)).t,())):=by
 rw[Zj (x:=s.T+n) (by omega) (by omega),Zj (x:=s.steps+1) (by omega) (by omega),ZgA s.T (s.T+n) (by omega) (by omega)]
 unfold WJ
 simp only
 cases ltI 127 s.ctrl<;>rfl
theorem Zoq (s:Zc) (h:Zq s) (hw:QG s≠0):r121 (s.t,())=some ((false,()),(s.t,())):=by
 unfold r121 m121
 refine Za (ZkT s h) ?_
 show (bif neI (QG s) 0 then _ else _)=_
 rw[Jy hw];rfl
theorem Zor (s:Zc) (h:Zq s) (hr:ZA s) (hw:QG s=0):r121 (s.t,())=some ((true,()),((Yq s).t,())):=by
 have ht:=h.t
 have hst:=h.steps
 unfold r121 m121
 refine Za (ZkT s h) ?_
 show (bif neI (QG s) 0 then _ else _)=_
 rw[JU hw,cond_false]
 refine Za (Zhi s h) ?_
 unfold Yq
 cases hm:Jm s with
 |true=>
  have hl:Zw s=Jk s s.snd.apu.irq:=by unfold Zw;rw[hm,if_pos rfl]
  have hn:s.nmi=false:=by
   unfold Jm at hm
   cases hn:s.nmi with
   |true=>rw[hn]at hm;cases hm
   |false=>rfl
  have hL:Zq (Jk s s.snd.apu.irq):=hl▸ZeP h
  rw[hl,cond_true]
  refine Za (Zid s s.snd.apu.irq) ?_
  show (bif s.nmi then _ else _)=_
  rw[hn,cond_false]
  refine Za (Zck (Jk s s.snd.apu.irq) hL) ?_
  have ea:=Ze2 s hn
  rw[hl]at ea
  unfold JY
  rw[show (Jk s s.snd.apu.irq).nmi=false from hn,if_neg (by simp),show (Jk s s.snd.apu.irq).cpu.i=s.cpu.i from rfl,←ea]
  have ek:Jf s=Jf (Jk s s.snd.apu.irq):=by rw[ea,←hl];exact (ZcU s hn).symm
  cases ha:Jf (Jk s s.snd.apu.irq)with
  |true=>
   rw[if_pos rfl]
   rw[cond_true]
   refine Za (ZbX (Jk s s.snd.apu.irq) 65534 hL (by decide)) ?_
   exact ZiY (Wa (Jk s s.snd.apu.irq) 65534) 7 ht.1 (by decide) (show s.T+7≤20000 from Zen hw (.inr (ek.trans ha))) hst.1 (show s.steps≤20000 by omega)
  |false=>
   rw[if_neg (by simp),cond_false]
   have hq:=Zdu h hw hn (ek.trans ha)
   have hp:=(ZnR hq).2
   have hrow:=ZfR (Zw s)
   rw[hl]at hq hp hrow
   refine Za (ZnV (Jk s s.snd.apu.irq) hq hr) ?_
   have k1:s.T+Qm (opS (Jk s s.snd.apu.irq))≤20000:=ZoR hw hn (ek.trans ha)
   have k2:=UD (opS (Jk s s.snd.apu.irq))
   generalize Qm (opS (Jk s s.snd.apu.irq))=n at k1 k2⊢
   obtain ⟨f1,f2,f3,f4,f5,f6⟩:=hp
   obtain ⟨g1,g2,g3,g4,g5,g6⟩:=hrow
   generalize XW (Jk s s.snd.apu.irq)=s' at f1 f2 f3 f4 f5 f6 g1 g2 g3 g4 g5 g6⊢
   obtain ⟨img,pads,mem,cpu,pad,T,nmi,ctrl,kn,ka,st,rd,⟨⟨pT,pc,ps,pa,pp,pb,ptb,pds⟩,pcap,pl,pf⟩,⟨sa,scap,sl,ss⟩⟩:=s'
   have g1:img=s.img:=g1
   have g2:pads=s.pads:=g2
   have g3:ptb=s.pic.ppu.table:=g3
   have g4:pds=s.pic.ppu.dots:=g4
   have g5:pf=s.pic.frames:=g5
   have g6:ss=s.snd.samples:=g6
   have f3:T=s.T:=f3
   have f5:st=s.steps:=f5
   subst g1 g2 g3 g4 g5 g6 f3 f5
   exact ZiY ⟨s.img,s.pads,mem,cpu,pad,s.T,nmi,ctrl,kn,ka,s.steps,rd,⟨⟨pT,pc,ps,pa,pp,pb,s.pic.ppu.table,s.pic.ppu.dots⟩,pcap,pl,s.pic.frames⟩,⟨sa,scap,sl,s.snd.samples⟩⟩ n ht.1 (by omega) k1 hst.1 (show s.steps≤20000 by omega)
 |false=>
  have hl:Zw s=s:=by unfold Zw;rw[hm,if_neg (by simp)]
  rw[hl,cond_false]
  show (bif s.nmi then _ else _)=_
  unfold JY
  cases hn:s.nmi with
  |true=>
   rw[if_pos rfl,cond_true]
   have h2:Zq {s with nmi:=false}:=⟨h.mem,h.pads,h.cpu,h.pic,h.snd,h.pad,h.ctrl,h.t,h.known,h.steps,h.pt,h.st,h.pl,h.sl⟩
   refine Za (ZbX {s with nmi:=false} 65530 h2 (by decide)) ?_
   exact ZiY (Wa {s with nmi:=false} 65530) 7 ht.1 (by decide) (show s.T+7≤20000 from Zen hw (.inl hn)) hst.1 (show s.steps≤20000 by omega)
  |false=>
   rw[if_neg (by simp),cond_false]
   refine Za (Zck s h) ?_
   have ea:=Ze2 s hn
   rw[hl]at ea
   rw[←ea]
   cases ha:Jf s with
   |true=>
    rw[if_pos rfl]
    rw[cond_true]
    refine Za (ZbX s 65534 h (by decide)) ?_
    exact ZiY (Wa s 65534) 7 ht.1 (by decide) (show s.T+7≤20000 from Zen hw (.inr ha)) hst.1 (show s.steps≤20000 by omega)
   |false=>
    rw[if_neg (by simp),cond_false]
    have hq:=Zdu h hw hn ha
    have hp:=(ZnR hq).2
    have hrow:=ZfR (Zw s)
    rw[hl]at hq hp hrow
    refine Za (ZnV s hq hr) ?_
    have k1:s.T+Qm (opS s)≤20000:=ZoR hw hn ha
    have k2:=UD (opS s)
    generalize Qm (opS s)=n at k1 k2⊢
    obtain ⟨f1,f2,f3,f4,f5,f6⟩:=hp
    obtain ⟨g1,g2,g3,g4,g5,g6⟩:=hrow
    generalize XW s=s' at f1 f2 f3 f4 f5 f6 g1 g2 g3 g4 g5 g6⊢
    obtain ⟨img,pads,mem,cpu,pad,T,nmi,ctrl,kn,ka,st,rd,⟨⟨pT,pc,ps,pa,pp,pb,ptb,pds⟩,pcap,pl,pf⟩,⟨sa,scap,sl,ss⟩⟩:=s'
    have g1:img=s.img:=g1
    have g2:pads=s.pads:=g2
    have g3:ptb=s.pic.ppu.table:=g3
    have g4:pds=s.pic.ppu.dots:=g4
    have g5:pf=s.pic.frames:=g5
    have g6:ss=s.snd.samples:=g6
    have f3:T=s.T:=f3
    have f5:st=s.steps:=f5
    subst g1 g2 g3 g4 g5 g6 f3 f5
    exact ZiY ⟨s.img,s.pads,mem,cpu,pad,s.T,nmi,ctrl,kn,ka,s.steps,rd,⟨⟨pT,pc,ps,pa,pp,pb,s.pic.ppu.table,s.pic.ppu.dots⟩,pcap,pl,s.pic.frames⟩,⟨sa,scap,sl,s.snd.samples⟩⟩ n ht.1 (by omega) k1 hst.1 (show s.steps≤20000 by omega)
theorem Zeg (s:Zc) (h:ZiE s) (hr:ZA s):((r171 ((s.img,()),(s.mem.t,(s.cpu.pc,())))).bind fun r0=>(r172 (r0.1.1,(s.cpu.t,()))).bind fun r1=>
  bif eqI r1.1.1 1 then (r242 (s.t,(r1.1.2.1,()))).bind (fun r2=>(r244 ((r2.1.1.2.2.1,(r2.1.1.2.2.2.1,())),((r2.1.1.2.2.2.2.1,(r2.1.1.2.2.2.2.2.1,(r2.1.1.2.2.2.2.2.2.1,(r2.1.1.2.2.2.2.2.2.2.1,(r2.1.1.2.2.2.2.2.2.2.2.1,(r2.1.1.2.2.2.2.2.2.2.2.2.1,(r2.1.1.2.2.2.2.2.2.2.2.2.2.1,(r2.1.1.2.2.2.2.2.2.2.2.2.2.2.1,())))))))),(r0.1.1,(r2.1.2.1,()))))).bind fun r3=>
    (r175 (r0.1.1.1,())).bind fun r4=>some ((((r2.1.1.1,(r2.1.1.2.1,(r3.1.1.1,(r3.1.1.2.1,(r3.1.2.1.1,(r3.1.2.1.2.1,(r3.1.2.1.2.2.1,(r3.1.2.1.2.2.2.1,(r3.1.2.1.2.2.2.2.1,(r3.1.2.1.2.2.2.2.2.1,(r3.1.2.1.2.2.2.2.2.2.1,(r3.1.2.1.2.2.2.2.2.2.2.1,r2.1.1.2.2.2.2.2.2.2.2.2.2.2.2)))))))))))),r4.1),())))
  else bif eqI r1.1.1 2 then (r243 (s.t,r1.1.2)).bind (fun r2=>(r244 ((r2.1.1.2.2.1,(r2.1.1.2.2.2.1,())),((r2.1.1.2.2.2.2.1,(r2.1.1.2.2.2.2.2.1,(r2.1.1.2.2.2.2.2.2.1,(r2.1.1.2.2.2.2.2.2.2.1,(r2.1.1.2.2.2.2.2.2.2.2.1,(r2.1.1.2.2.2.2.2.2.2.2.2.1,(r2.1.1.2.2.2.2.2.2.2.2.2.2.1,(r2.1.1.2.2.2.2.2.2.2.2.2.2.2.1,())))))))),(r0.1.1,((0:Int),()))))).bind fun r3=>
    (r175 (r0.1.1.1,())).bind fun r4=>some ((((r2.1.1.1,(r2.1.1.2.1,(r3.1.1.1,(r3.1.1.2.1,(r3.1.2.1.1,(r3.1.2.1.2.1,(r3.1.2.1.2.2.1,(r3.1.2.1.2.2.2.1,(r3.1.2.1.2.2.2.2.1,(r3.1.2.1.2.2.2.2.2.1,(r3.1.2.1.2.2.2.2.2.2.1,(r3.1.2.1.2.2.2.2.2.2.2.1,r2.1.1.2.2.2.2.2.2.2.2.2.2.2.2)))))))))))),r4.1),())))
  else (r244 (s.mem.t,(s.cpu.t,(r0.1.1,((0:Int),()))))).bind fun r3=>
    (r175 (r0.1.1.1,())).bind fun r4=>some ((((s.img,(s.pads,(r3.1.1.1,(r3.1.1.2.1,(r3.1.2.1.1,(r3.1.2.1.2.1,(r3.1.2.1.2.2.1,(r3.1.2.1.2.2.2.1,(r3.1.2.1.2.2.2.2.1,(r3.1.2.1.2.2.2.2.2.1,(r3.1.2.1.2.2.2.2.2.2.1,(r3.1.2.1.2.2.2.2.2.2.2.1,s.t.2.2.2.2.2.2.2.2.2.2.2.2)))))))))))),r4.1),())))=some (((XW s).t,(Qm (opS s),())),()):=by
 have hp:=h.p
 unfold XW
 refine Za (Zav s.img s.mem s.cpu.pc hp.mem hp.cpu.pc) (Za (Zak (opS s) (QN s) s.cpu hp.cpu (Ug hp)) ?_)
 show (bif eqI (ZG (opS s)) 1 then _ else bif eqI (ZG (opS s)) 2 then _ else _)=_
 by_cases o1:ZG (opS s)=1
 ·rw[Zi o1,if_pos o1,cond_true]
  refine Za (Zmd s (Zz s) hp hr) ?_
  have hq:=Zky hp (Zz s)
  exact Za (Zan (Jz s (Zz s)).mem (Jz s (Zz s)).cpu (opS s) (QN s) (Kd s (Zz s)) hq.mem.ram hq.cpu) (Za (Zac (opS s,())) rfl)
 rw[Zd o1,if_neg o1,cond_false]
 by_cases o2:ZG (opS s)=2
 ·rw[Zi o2,if_pos o2,cond_true]
  have ev:YQ (opS s) s.cpu.a=s.cpu.a%256:=by unfold YQ;rw[if_pos o2]
  have kw:=Zkg s (Zz s) (s.cpu.a%256) hp (mod256 _)
  rw[←ev]at kw
  refine Za kw ?_
  rw[ev]
  have hq:=Ze0 hp (mod256 s.cpu.a) (h.room o2) (h.room' o2)
  exact Za (Zan (JC s (Zz s) (s.cpu.a%256)).mem (JC s (Zz s) (s.cpu.a%256)).cpu (opS s) (QN s) 0 hq.mem.ram hq.cpu) (Za (Zac (opS s,())) rfl)
 ·rw[Zd o2,if_neg o2,cond_false]
  exact Za (Zan s.mem s.cpu (opS s) (QN s) 0 hp.mem.ram hp.cpu) (Za (Zac (opS s,())) rfl)
theorem Zpl (s:Zc) (h:Zq s) (hr:ZA s) (hw:QG s=0):r180 (s.t,())=some (((JY (Zw s)).1.t,((JY (Zw s)).2,())),()):=by
 unfold r180 m180
 show (bif s.nmi then _ else bif !s.cpu.i then _ else _)=_
 cases hn:s.nmi with
 |true=>
  have hl:Zw s=s:=by unfold Zw Jm;rw[hn];rfl
  rw[hl,cond_true]
  unfold JY
  rw[hn,if_pos rfl]
  exact Za (Zau s.img s.mem s.cpu 65530 h.mem h.cpu (by decide)) rfl
 |false=>
  rw[cond_false]
  have ea:=Ze2 s hn
  cases hi:s.cpu.i with
  |true=>
   have hm:Jm s=false:=by unfold Jm;rw[hi];simp
   have hl:Zw s=s:=by unfold Zw;rw[hm,if_neg (by simp)]
   rw[hl]at ea⊢
   unfold JY
   rw[hn,if_neg (by simp),hi,show (s.known&& !true)=false by simp,if_neg (by simp),show (!true)=false from rfl,cond_false]
   have ha:Jf s=false:=by rw[ea,hi];simp
   have hq:=Zdu h hw hn ha
   rw[hl]at hq
   exact Zeg s hq hr
  |false=>
   rw[show (!false)=true from rfl,cond_true]
   refine Za (Zbv _ _ (ZfE h) h.t) ?_
   show (bif Jv s.knownAt s.T then _ else _)=_
   cases hb:Jv s.knownAt s.T with
   |true=>
    have hm:Jm s=true:=by unfold Jm;rw[hn,hi,hb];rfl
    have hl:Zw s=Jk s s.snd.apu.irq:=by unfold Zw;rw[hm,if_pos rfl]
    have hL:Zq (Jk s s.snd.apu.irq):=hl▸ZeP h
    rw[hl]at ea⊢
    rw[cond_true]
    refine Za (Zd3 s s.snd.apu.irq) ?_
    show (bif s.snd.apu.irq then _ else _)=_
    unfold JY
    rw[show (Jk s s.snd.apu.irq).nmi=false from hn,if_neg (by simp),show (Jk s s.snd.apu.irq).cpu.i=false from hi,show ((Jk s s.snd.apu.irq).known&& !false)=s.snd.apu.irq by simp[Jk]]
    cases hk:s.snd.apu.irq with
    |true=>
     rw[cond_true,if_pos rfl]
     exact Za (Zau s.img s.mem s.cpu 65534 h.mem h.cpu (by decide)) rfl
    |false=>
     rw[cond_false,if_neg (by simp)]
     rw[hk]at hl hL ea
     have ha:Jf s=false:=by unfold Jf;rw[hb,if_pos rfl,hk];rfl
     have hq:=Zdu h hw hn ha
     rw[hl]at hq
     exact Zeg (Jk s false) hq hr
   |false=>
    have hm:Jm s=false:=by unfold Jm;rw[hn,hi,hb];rfl
    have hl:Zw s=s:=by unfold Zw;rw[hm,if_neg (by simp)]
    rw[hl]at ea⊢
    rw[cond_false]
    show (bif s.known then _ else _)=_
    unfold JY
    rw[hn,if_neg (by simp),hi,show (s.known&& !false)=s.known by simp]
    cases hk:s.known with
    |true=>
     rw[cond_true,if_pos rfl]
     exact Za (Zau s.img s.mem s.cpu 65534 h.mem h.cpu (by decide)) rfl
    |false=>
     rw[cond_false,if_neg (by simp)]
     have ha:Jf s=false:=by rw[ea,hk];rfl
     have hq:=Zdu h hw hn ha
     rw[hl]at hq
     exact Zeg s hq hr
theorem Zcn (s:Zc) (h:Zq s) (hr:ZA s):r23 (s.t,())=some ((s.t,()),()):=by
 unfold ZA at hr
 have h4:=h.mem.ram.len
 have h5:=h.pads.len
 have l1:leN (0+s.pads.length) (E.most .i)=true:=ZO (by simp only[E.most];omega)
 have l2:leN (0+s.reads.length) (E.most .i)=true:=ZO (by simp only[E.most];omega)
 unfold r23 m23
 refine Za (Zal s.img h.mem.img.small) ?_
 show (bif leN (0+s.pads.length) (E.most .i)then _ else none)=_
 rw[l1,cond_true]
 refine Za (Zdm s.mem h4) ?_
 show (bif leN (0+s.reads.length) (E.most .i)then _ else none)=_
 rw[l2,cond_true]
 exact Za (Zdi s.pic h.pic) (Za (ZfI s.snd h.snd) rfl)
theorem Zfe (s:Zc) (h:Zq s) (hr:ZA s):r38 (s.t,())=some ((s.t,()),()):=U5 s.t (h.s (by unfold ZA at hr;omega))
theorem Zia (s:Zc) (h:Zq s) (hr:ZA s):r17 (s.t,())=some ((true,()),()):=by
 rw[Vu s.t (h.s (by unfold ZA at hr;omega)),JN.2 h]
theorem ZdG (s:Zc) (h:Zq s) (hr:ZA s):r15 (s.t,())=some ((true,()),()):=by
 rw[KK s.t (h.s (by unfold ZA at hr;omega)),JN.2 h]
def QD (s:Zc):Zc:=if QG s=0 then Yq s else s
def Xu (s:Zc):Bool:=decide (QG s=0)
theorem ZcI (s:Zc) (h:Zq s) (hr:ZA s):r99 (s.t,())=some (((QD s).t,(Xu s,())),()):=by
 have ht:=h.t
 have hst:=h.steps
 unfold r99 m99 QD Xu
 refine Za (ZdG s h hr) (Za (Zd4 s h) ?_)
 show (bif neI (QG s) 0 then _ else _)=_
 by_cases hw:QG s=0
 ·rw[JU hw,cond_false,if_pos hw,decide_eq_true hw]
  refine Za (Zcn s h hr) (Za (Zpl s h hr hw) ?_)
  unfold Yq WJ
  obtain ⟨p,hstep,_,h5,h6,_⟩:=Zgm h hw
  have p:=p.t
  have e1:(Yq s).T=s.T+(JY (Zw s)).2:=rfl
  rw[e1]at p h5 h6
  have w1:wI (s.T+(JY (Zw s)).2)=s.T+(JY (Zw s)).2:=Zj (by omega) (by omega)
  have w2:wI (s.steps+1)=s.steps+1:=Zj (by omega) (by omega)
  have e2:(JY (Zw s)).1.steps=s.steps:=by
   have e3:(JY (Zw s)).1.steps+1=s.steps+1:=hstep
   omega
  rw[e2]
  have kb:=ZgK s.T (s.T+(JY (Zw s)).2) ht p
  rw[←w1]at kb
  generalize JY (Zw s)=d at w1 kb e2⊢
  show (bif ltI 127 d.1.ctrl then (r181 (s.T,(wI (s.T+d.2),()))).bind (fun r=>some (((({d.1 with T:=wI (s.T+d.2),nmi:=r.1.1,steps:=wI (s.steps+1)}:Zc).t,(true,())),()):(Tup Qi×Bool×Unit)×Unit))
   else some ((({d.1 with T:=wI (s.T+d.2),nmi:=false,steps:=wI (s.steps+1)}:Zc).t,(true,())),()))=_
  rw[kb,w1,w2]
  cases ltI 127 d.1.ctrl<;>rfl
 ·rw[Jy hw,cond_true,if_neg hw,decide_eq_false hw]
  exact Za (Zcn s h hr) rfl
theorem Zei (s:Zc) (h:Zq s) (hr:ZA s):r121 (s.t,())=some ((Xu s,()),((QD s).t,())):=by
 unfold QD Xu
 by_cases hw:QG s=0
 ·rw[if_pos hw,decide_eq_true hw];exact Zor s h hr hw
 ·rw[if_neg hw,decide_eq_false hw];exact Zoq s h hw
theorem UO (s:Zc):KQ s (QD s):=by
 unfold QD
 split
 ·exact ZmG s
 ·exact .rfl' s
def QI (s:Zc) (who:Int):Zc:=(KE s who).getD s
def Jg (s:Zc) (who:Int):Bool:=(KE s who).isSome
theorem UF (s:Zc):QI s 0=QD s∧Jg s 0=Xu s:=by
 unfold QI Jg KE QD Xu
 rw[if_pos rfl]
 by_cases hw:QG s=0
 ·rw[if_pos hw,if_pos hw,decide_eq_true hw];exact ⟨rfl,rfl⟩
 ·rw[if_neg hw,if_neg hw,decide_eq_false hw];exact ⟨rfl,rfl⟩
theorem Zhm (s:Zc):QI s 1={s with pic:=(Z2 s.pic s.T).getD s.pic}∧Jg s 1=(Z2 s.pic s.T).isSome:=by
 unfold QI Jg KE
 rw[if_neg (by decide),if_pos rfl]
 cases Z2 s.pic s.T<;>exact ⟨rfl,rfl⟩
theorem Zhn (s:Zc):QI s 2={s with snd:=(Z3 s.snd s.T).getD s.snd}∧Jg s 2=(Z3 s.snd s.T).isSome:=by
 unfold QI Jg KE
 rw[if_neg (by decide),if_neg (by decide),if_pos rfl]
 cases Z3 s.snd s.T<;>exact ⟨rfl,rfl⟩
theorem Zho (s:Zc) {who:Int} (h0:who≠0) (h1:who≠1) (h2:who≠2):QI s who=s∧Jg s who=false:=by
 unfold QI Jg KE
 rw[if_neg h0,if_neg h1,if_neg h2]
 exact ⟨rfl,rfl⟩
theorem ZfU {s:Zc} (h:Zq s) (who:Int):Zq (QI s who)∧(QI s who).reads.length≤s.reads.length+1:=by
 unfold QI
 cases hp:KE s who with
 |none=>exact ⟨h,Nat.le_succ _⟩
 |some v=>exact Zkv h hp
theorem Zgk {s:Zc} (h:Zq s):Zq (QD s)∧(QD s).reads.length≤s.reads.length+1:=by
 rw[←(UF s).1];exact ZfU h 0
theorem Zq2 (s:Zc) (who:Int) (h:Zq s) (hr:ZA s):r191 (s.t,(who,()))=some ((Jg s who,()),((QI s who).t,())):=by
 unfold r191 m191
 show (bif eqI who 0 then _ else bif eqI who 1 then _ else bif eqI who 2 then _ else _)=_
 by_cases c0:who=0
 ·subst c0
  rw[(UF s).1,(UF s).2,Zi rfl,cond_true]
  refine Za (Zei s h hr) ?_
  obtain ⟨g1,g2,g3,g4,g5,g6⟩:=UO s
  generalize QD s=s' at g1 g2 g3 g4 g5 g6⊢
  obtain ⟨img,pads,mem,cpu,pad,T,nmi,ctrl,kn,ka,st,rd,⟨⟨pT,pc,ps,pa,pp,pb,ptb,pds⟩,pcap,pl,pf⟩,⟨sa,scap,sl,ss⟩⟩:=s'
  have g1:img=s.img:=g1
  have g2:pads=s.pads:=g2
  have g3:ptb=s.pic.ppu.table:=g3
  have g4:pds=s.pic.ppu.dots:=g4
  have g5:pf=s.pic.frames:=g5
  have g6:ss=s.snd.samples:=g6
  subst g1 g2 g3 g4 g5 g6
  rfl
 rw[Zd c0,cond_false]
 by_cases c1:who=1
 ·subst c1
  rw[(Zhm s).1,(Zhm s).2,Zi rfl,cond_true]
  exact Za (Zhl s.pic s.T h.pic) rfl
 rw[Zd c1,cond_false]
 by_cases c2:who=2
 ·subst c2
  rw[(Zhn s).1,(Zhn s).2,Zi rfl,cond_true]
  exact Za (Zht s.snd s.T h.snd) rfl
 ·rw[Zd c2,cond_false,(Zho s c0 c1 c2).1,(Zho s c0 c1 c2).2]
def Zop:Tup Qi:=([],([],([],(0,(0,(0,(0,(0,(false,(false,(false,(false,(false,(0,(0,(false,(0,(false,(0,(0,([],(0,(0,(0,(0,(0,(false,([],([],(0,([],([],(0,(0,(0,(0,(0,(false,(false,(0,([],([],()))))))))))))))))))))))))))))))))))))))))))
theorem ZlC {s:Zc} (h:Zq s) (hr:ZA s):ZM s.t:=h.s (by unfold ZA at hr;omega)
def Jo (s:Zc) (who:Int):Tup Qi×Bool:=if Qd s.t then ((QI s who).t,Jg s who)else (Zop,false)
theorem Zg5 (s:Zc) (who:Int) (hs:ZM s.t) (hr:ZA s):r117 (s.t,(who,()))=some (((Jo s who).1,((Jo s who).2,())),()):=by
 unfold Jo
 cases ho:Qd s.t with
 |false=>
  unfold r117 m117
  exact Za (by rw[Vu s.t hs,ho]) rfl
 |true=>
  have h:=JN.1 ho
  unfold r117 m117
  rw[if_pos rfl]
  refine Za (Zia s h hr) (Za (Zfe s h hr) (Za (Zq2 s who h hr) ?_))
  have hg:(QI s who).img=s.img∧(QI s who).pads=s.pads:=by
   by_cases c0:who=0
   ·subst c0;rw[(UF s).1];exact ⟨(UO s).img,(UO s).pads⟩
   by_cases c1:who=1
   ·subst c1;rw[(Zhm s).1];exact ⟨rfl,rfl⟩
   by_cases c2:who=2
   ·subst c2;rw[(Zhn s).1];exact ⟨rfl,rfl⟩
   ·rw[(Zho s c0 c1 c2).1];exact ⟨rfl,rfl⟩
  obtain ⟨g1,g2⟩:=hg
  generalize QI s who=s' at g1 g2⊢
  obtain ⟨img,pads,mem,cpu,pad,T,nmi,ctrl,kn,ka,st,rd,pc,sn⟩:=s'
  have g1:img=s.img:=g1
  have g2:pads=s.pads:=g2
  subst g1 g2
  rfl
theorem Zgh (s:Zc) (who:Int) (h:Zq s) (hr:ZA s):r25 (s.t,(who,()))=some (((QI s who).t,(Jg s who,())),()):=by
 unfold r25 m25
 refine Za (ZdG s h hr) (Za (Zcn s h hr) ?_)
 show (bif eqI who 0 then _ else bif eqI who 1 then _ else bif eqI who 2 then _ else _)=_
 by_cases c0:who=0
 ·subst c0
  rw[(UF s).1,(UF s).2,Zi rfl,cond_true]
  exact Za (ZcI s h hr) rfl
 rw[Zd c0,cond_false]
 by_cases c1:who=1
 ·subst c1
  rw[(Zhm s).1,(Zhm s).2,Zi rfl,cond_true]
  exact Za (Zi8 s.pic s.T h.pic) rfl
 rw[Zd c1,cond_false]
 by_cases c2:who=2
 ·subst c2
  rw[(Zhn s).1,(Zhn s).2,Zi rfl,cond_true]
  exact Za (Zi9 s.snd s.T h.snd) rfl
 ·rw[Zd c2,cond_false,(Zho s c0 c1 c2).1,(Zho s c0 c1 c2).2]
theorem Zhu (s:Zc) (who:Int) (hs:ZM s.t) (hr:ZA s):r25 (s.t,(who,()))=some (((Jo s who).1,((Jo s who).2,())),()):=by
 unfold Jo
 cases ho:Qd s.t with
 |true=>exact Zgh s who (JN.1 ho) hr
 |false=>
  unfold r25 m25
  exact Za (by rw[KK s.t hs,ho]) rfl
theorem Zld (s:Zc) (h:Zq s):r119 (s.t,())=some ((),((ZH s).t,())):=by
 unfold r119 m119
 exact Za (Zku s.pic s.T h.pic) (Za (ZkE s.snd s.T h.snd) rfl)
def Ys (s:Zc):Zc:=if Qd s.t then ZH s else s
theorem Zja (s:Zc) (hs:ZM s.t) (hr:ZA s):r23 (s.t,())=some ((s.t,()),()):=by
 unfold ZA at hr
 obtain ⟨h1,h2,h3,h4,h5,h6⟩:=hs
 have h2:s.pads.length≤4398046511104:=h2
 have h3:s.mem.t.1.length≤4398046511104:=h3
 have h62:s.snd.samples.length≤4398046511104:=h6.2
 have l1:leN (0+s.pads.length) (E.most .i)=true:=ZO (by simp only[E.most];omega)
 have l2:leN (0+s.reads.length) (E.most .i)=true:=ZO (by simp only[E.most];omega)
 have kp:r94 (s.pic.t,())=some ((s.pic.t,()),()):=by
  unfold r94 m94
  exact Za (Uw s.pic.ppu.t h5.1) (Za (Zcm (s.pic.cap,(s.pic.list,())) h5.2.1) (Za (Zcl s.pic.frames h5.2.2) rfl))
 have ks:r95 (s.snd.t,())=some ((s.snd.t,()),()):=by
  unfold r95 m95
  refine Za (Zcm (s.snd.cap,(s.snd.list,())) h6.1) ?_
  show (bif leN (0+s.snd.samples.length) (E.most .i)then _ else none)=_
  rw[ZO (by simp only[E.most];omega)]
  rfl
 unfold r23 m23
 refine Za (Zal s.img h1) ?_
 show (bif leN (0+s.pads.length) (E.most .i)then _ else none)=_
 rw[l1,cond_true]
 refine Za (Zdl s.mem.t h3) ?_
 show (bif leN (0+s.reads.length) (E.most .i)then _ else none)=_
 rw[l2,cond_true]
 exact Za kp (Za ks rfl)
theorem ZcQ (s:Zc) (hs:ZM s.t) (hr:ZA s):r41 (s.t,())=some (((Ys s).t,()),()):=by
 unfold r41 m41 Ys
 refine Za (U5 s.t hs) (Za (Vu s.t hs) ?_)
 show (bif Qd s.t then _ else _)=_
 cases ho:Qd s.t with
 |true=>exact Za (Zld s (JN.1 ho)) rfl
 |false=>rfl
theorem Zby (s:Zc) (hs:ZM s.t) (hr:ZA s):r26 (s.t,())=some (((Ys s).t,()),()):=by
 unfold r26 m26 Ys
 refine Za (Zja s hs hr) (Za (KK s.t hs) ?_)
 show (bif !Qd s.t then _ else _)=_
 cases ho:Qd s.t with
 |true=>
  have h:=JN.1 ho
  exact Za (ZcW s.pic s.T h.pic) (Za (Zeh s.snd s.T h.snd) rfl)
 |false=>rfl
theorem Zpt {s:Zc} (h:Zq s):Ys s=ZH s:=by
 unfold Ys
 rw[JN.2 h,if_pos rfl]
theorem ZaQ (s:Zc):(ZH s).reads=s.reads:=rfl
def QA:Nat→Zc→Zc×Nat
 |0,s=>(s,0)
 |n+1,s=>if Xu (ZH s)then ((QA n (QD (ZH s))).1,(QA n (QD (ZH s))).2+1)else (QD (ZH s),0)
theorem ZhZ: ∀{n:Nat} {s:Zc},Zq s→Zq (QA n s).1∧(QA n s).1.reads.length≤s.reads.length+n∧(QA n s).2≤n
 |0,s,h=>⟨h,Nat.le_refl _,Nat.le_refl _⟩
 |n+1,s,h=>by
  obtain ⟨a,b⟩:=Zgk (Ux h).1
  have b:(QD (ZH s)).reads.length≤s.reads.length+1:=b
  unfold QA
  split
  ·obtain ⟨c,d,e⟩:=ZhZ (n:=n) a
   exact ⟨c,by show (QA n (QD (ZH s))).1.reads.length≤_;omega,by show (QA n (QD (ZH s))).2+1≤n+1;omega⟩
  ·exact ⟨a,by show (QD (ZH s)).reads.length≤_;omega,Nat.zero_le _⟩
theorem ZiW: ∀(n:Nat) (s:Zc),(QA n s).1.img=s.img∧(QA n s).1.pads=s.pads
 |0,s=>⟨rfl,rfl⟩
 |n+1,s=>by
  have hr:=UO (ZH s)
  unfold QA
  split
  ·obtain ⟨c,d⟩:=ZiW n (QD (ZH s))
   exact ⟨c.trans hr.img,d.trans hr.pads⟩
  ·exact ⟨hr.img,hr.pads⟩
def QE (n:Int):Nat:=(if n<3000 then n else 3000).toNat
theorem K5 (n:Int):QE n≤3000:=by unfold QE;split<;>omega
theorem VA (n:Int):mnI n 3000=if n<3000 then n else 3000:=by
 unfold mnI
 by_cases h:n<3000
 ·rw[if_neg (by omega),if_pos h]
 ·rw[if_neg h]
  split<;>omega
theorem Zde (n:Int): ∀(k i j:Nat) (s:Zc),Zq s→s.reads.length+j≤4398046511000→j<k→QE n=i+j→
  n43_0 r119 r121 r17 r38 k (n,()) (s.t,()) ((i:Int),())=some (Sum.inl (((i+(QA j s).2:Nat):Int),()),((QA j s).1.t,()))
 |0,_,_,_,_,_,h,_=>absurd h (by omega)
 |k+1,i,j,s,h,hr,hk,hm=>by
  have hb:=K5 n
  show (bif ltI (i:Int) (mnI n 3000)then (r119 (s.t,())).bind _ else some (Sum.inl ((i:Int),()),(s.t,())))=_
  cases j with
  |zero=>
   rw[VA,Zp (by unfold QE at hm;omega),cond_false]
   rfl
  |succ j=>
   rw[VA,Zf (by unfold QE at hm;omega),cond_true]
   have hL:=(Ux h).1
   have hroom:ZA (ZH s):=by unfold ZA;rw[ZaQ];omega
   refine Za (Zld s h) (Za (Zei (ZH s) hL hroom) ?_)
   obtain ⟨a,b⟩:=Zgk hL
   rw[ZaQ]at b
   have hrow:=UO (ZH s)
   have g1:(QD (ZH s)).img=s.img:=hrow.img
   have g2:(QD (ZH s)).pads=s.pads:=hrow.pads
   show (bif !Xu (ZH s)then _ else _)=_
   cases hst:Xu (ZH s)with
   |false=>
    have e:QA (j+1) s=(QD (ZH s),0):=by
     show (if Xu (ZH s)then _ else _)=_
     rw[hst,if_neg (by simp)]
    rw[e,Bool.not_false,cond_true]
    clear a b hrow e
    obtain ⟨_,_,g3,g4,g5,g6⟩:=UO (ZH s)
    generalize QD (ZH s)=s' at g1 g2 g3 g4 g5 g6⊢
    generalize hlm:ZH s=l at g3 g4 g5 g6⊢
    obtain ⟨img,pads,mem,cpu,pad,T,nmi,ctrl,kn,ka,st,rd,⟨⟨pT,pc,ps,pa,pp,pb,ptb,pds⟩,pcap,pl,pf⟩,⟨sa,scap,sl,ss⟩⟩:=s'
    have g1:img=s.img:=g1
    have g2:pads=s.pads:=g2
    have g3:ptb=l.pic.ppu.table:=g3
    have g4:pds=l.pic.ppu.dots:=g4
    have g5:pf=l.pic.frames:=g5
    have g6:ss=l.snd.samples:=g6
    subst g1 g2 g3 g4 g5 g6
    rfl
   |true=>
    have e:QA (j+1) s=((QA j (QD (ZH s))).1,(QA j (QD (ZH s))).2+1):=by
     show (if Xu (ZH s)then _ else _)=_
     rw[hst,if_pos rfl]
    rw[e,Bool.not_true,cond_false]
    have ih:=Zde n k (i+1) j (QD (ZH s)) a (by omega) (by omega) (by omega)
    have w2:wI ((i:Int)+1)=((i+1:Nat):Int):=Jd (by omega)
    rw[←w2]at ih
    rw[show i+((QA j (QD (ZH s))).2+1)=i+1+(QA j (QD (ZH s))).2 by omega]
    clear a b hrow e
    obtain ⟨_,_,g3,g4,g5,g6⟩:=UO (ZH s)
    generalize QD (ZH s)=s' at g1 g2 g3 g4 g5 g6 ih⊢
    generalize hlm:ZH s=l at g3 g4 g5 g6⊢
    obtain ⟨img,pads,mem,cpu,pad,T,nmi,ctrl,kn,ka,st,rd,⟨⟨pT,pc,ps,pa,pp,pb,ptb,pds⟩,pcap,pl,pf⟩,⟨sa,scap,sl,ss⟩⟩:=s'
    have g1:img=s.img:=g1
    have g2:pads=s.pads:=g2
    have g3:ptb=l.pic.ppu.table:=g3
    have g4:pds=l.pic.ppu.dots:=g4
    have g5:pf=l.pic.frames:=g5
    have g6:ss=l.snd.samples:=g6
    subst g1 g2 g3 g4 g5 g6
    exact ih
def WL (s:Zc) (n:Int):Tup Qi×Int:=if Qd s.t then ((QA (QE n) s).1.t,((QA (QE n) s).2:Int))else (Zop,0)
theorem Zl7 (s:Zc) (n:Int) (hs:ZM s.t) (hr:s.reads.length≤1048576):r43 (s.t,(n,()))=some (((WL s n).1,((WL s n).2,())),()):=by
 have hroom:ZA s:=by unfold ZA;omega
 have hb:=K5 n
 unfold r43 m43 WL
 refine Za (Vu s.t hs) ?_
 show (bif !Qd s.t then _ else _)=_
 cases ho:Qd s.t with
 |false=>rfl
 |true=>
  have h:=JN.1 ho
  rw[Bool.not_true,cond_false,if_pos rfl]
  refine Za (Zfe s h hroom) ?_
  have k:=Zde n fuel 0 (QE n) s h (by omega) (by have:=ZQ;omega) (by omega)
  simp only[Int.natCast_zero,Nat.zero_add]at k
  refine Za k ?_
  obtain ⟨g1,g2⟩:=ZiW (QE n) s
  generalize QA (QE n) s=d at g1 g2⊢
  obtain ⟨⟨img,pads,mem,cpu,pad,T,nmi,ctrl,kn,ka,st,rd,pc,sn⟩,n⟩:=d
  have g1:img=s.img:=g1
  have g2:pads=s.pads:=g2
  subst g1 g2
  rfl
theorem ZjK (s:Zc) (h:Zq s) (hr:ZA s):r26 (s.t,())=some (((ZH s).t,()),()):=by
 have:=Zby s (ZlC h hr) hr
 rwa [Zpt h]at this
theorem Zd5 (n:Int):r105 (n,((3000:Int),()))=some ((mnI n 3000,()),()):=by rw[Zla,VA]
theorem ZdE (n:Int) (z:Tup Qi): ∀(k i j:Nat) (s:Zc),Zq s→s.reads.length+j≤4398046511000→j<k→QE n=i+j→
  (∃y,n29_0 r99 r26 r15 r23 r106 r105 k (n,()) (z,(s.t,())) ((i:Int),())=some (Sum.inr (((i+(QA j s).2:Nat):Int),()),((QA j s).1.t,(y,()))))∨
  (∃y m,n29_0 r99 r26 r15 r23 r106 r105 k (n,()) (z,(s.t,())) ((i:Int),())=some (Sum.inl m,(y,((QA j s).1.t,())))∧(QA j s).2=j)
 |0,_,_,_,_,_,h,_=>absurd h (by omega)
 |k+1,i,j,s,h,hr,hk,hm=>by
  have hb:=K5 n
  have e0:n29_0 r99 r26 r15 r23 r106 r105 (k+1) (n,()) (z,(s.t,())) ((i:Int),())=bif ltI (i:Int) (mnI n 3000)then (r26 (s.t,())).bind (fun r1=>(r99 (r1.1.1,())).bind fun r2=>
    bif (!r2.1.2.1)then (some ((Sum.inr ((i:Int),())),(r2.1.1,(s.t,()))))else n29_0 r99 r26 r15 r23 r106 r105 k (n,()) (z,(r2.1.1,())) ((wI ((i:Int)+(1:Int))),()))else some (Sum.inl ((i:Int),()),(z,(s.t,()))):=by
   show (r105 (n,((3000:Int),()))).bind _=_
   exact Za (Zd5 n) rfl
  rw[e0]
  cases j with
  |zero=>
   rw[VA,Zp (by unfold QE at hm;omega),cond_false]
   exact .inr ⟨_,_,rfl,rfl⟩
  |succ j=>
   rw[VA,Zf (by unfold QE at hm;omega),cond_true]
   have hL:=(Ux h).1
   have hroom:ZA (ZH s):=by unfold ZA;rw[ZaQ];omega
   have hroom':ZA s:=by unfold ZA;omega
   rw[ZjK s h hroom',Option.bind_some,ZcI (ZH s) hL hroom,Option.bind_some]
   obtain ⟨a,b⟩:=Zgk hL
   rw[ZaQ]at b
   cases hst:Xu (ZH s)with
   |false=>
    have e:QA (j+1) s=(QD (ZH s),0):=by
     show (if Xu (ZH s)then _ else _)=_
     rw[hst,if_neg (by simp)]
    rw[e]
    exact .inl ⟨_,rfl⟩
   |true=>
    have e:QA (j+1) s=((QA j (QD (ZH s))).1,(QA j (QD (ZH s))).2+1):=by
     show (if Xu (ZH s)then _ else _)=_
     rw[hst,if_pos rfl]
    rw[e]
    have ih:=ZdE n z k (i+1) j (QD (ZH s)) a (by omega) (by omega) (by omega)
    have w2:wI ((i:Int)+1)=((i+1:Nat):Int):=Jd (by omega)
    rw[←w2]at ih
    rcases ih with ⟨y,ih⟩| ⟨y,m,ih,ih2⟩
    ·refine .inl ⟨y,?_⟩
     rw[show i+((QA j (QD (ZH s))).2+1)=i+1+(QA j (QD (ZH s))).2 by omega]
     exact ih
    ·exact .inr ⟨y,m,ih,by show (QA j (QD (ZH s))).2+1=j+1;omega⟩
theorem ZmC (s:Zc) (n:Int) (hs:ZM s.t) (hr:s.reads.length≤1048576):r29 (s.t,(n,()))=some (((WL s n).1,((WL s n).2,())),()):=by
 have hroom:ZA s:=by unfold ZA;omega
 have hb:=K5 n
 unfold r29 m29 WL
 refine Za (KK s.t hs) ?_
 show (bif !Qd s.t then _ else _)=_
 cases ho:Qd s.t with
 |false=>rfl
 |true=>
  have h:=JN.1 ho
  rw[Bool.not_true,cond_false,if_pos rfl]
  refine Za (Zcn s h hroom) ?_
  rcases ZdE n Zop fuel 0 (QE n) s h (by omega) (by have:=ZQ;omega) (by omega)with ⟨y,k⟩| ⟨y,m,k,k2⟩
  ·simp only[Int.natCast_zero,Nat.zero_add]at k
   exact Za k rfl
  ·simp only[Int.natCast_zero]at k
   refine Za k ?_
   refine Za (Zd5 n) (Za (Zk9 (mnI n 3000) 0) ?_)
   have e:(if (0:Int)<mnI n 3000 then mnI n 3000 else 0)=((QA (QE n) s).2:Int):=by
    rw[k2,VA]
    unfold QE
    repeat' split
    all_goals omega
   rw[e]
def KT (s:Zc):List Int:=((if (Jo s 0).2 then [0]else [])++(if (Jo s 1).2 then [1]else []))++(if (Jo s 2).2 then [2]else [])
theorem ZaY (s:Zc) (hs:ZM s.t) (hr:ZA s) (k:Nat) (i:Nat) (l:List Int) (hi:i≤2) (hl:l.length≤3):
  n154_0 r117 (k+1) () (s.t,()) (l,((i:Int),()))=n154_0 r117 k () (s.t,()) (l++(if (Jo s (i:Int)).2 then [(i:Int)]else []),(((i+1:Nat):Int),())):=by
 have e0:n154_0 r117 (k+1) () (s.t,()) (l,((i:Int),()))=bif leI (i:Int) 2 then (r117 (s.t,((i:Int),()))).bind (fun r0=>bif r0.1.2.1 then (bif leN (l.length+1) (E.most .i)then n154_0 r117 k () (s.t,()) (l++[(i:Int)],(wI ((i:Int)+1),()))else none)else n154_0 r117 k () (s.t,()) (l,(wI ((i:Int)+1),())))else some (Sum.inl (l,((i:Int),())),(s.t,())):=rfl
 rw[e0,Zo (by omega),cond_true,Zg5 s (i:Int) hs hr,Option.bind_some,Jd (by omega),ZO (by simp only[E.most];omega)]
 cases (Jo s (i:Int)).2 with
 |true=>rfl
 |false=>simp
theorem Zl6 (s:Zc) (hs:ZM s.t) (hr:ZA s):r154 (s.t,())=some ((KT s,()),()):=by
 obtain ⟨f,hf⟩: ∃f,fuel=f+4:=⟨fuel-4,by have:=ZQ;omega⟩
 unfold r154 m154 L154_0
 rw[hf]
 have l0: ∀b:Bool,∀x:Int,(if b then [x]else []).length≤1:=fun b x=>by cases b<;>simp
 have r0:=ZaY s hs hr (f+3) 0 [] (by omega) (by decide)
 have r1:=ZaY s hs hr (f+2) 1 ([]++(if (Jo s 0).2 then [(0:Int)]else [])) (by omega) (by have:=l0 (Jo s 0).2 0;simp only[List.nil_append];omega)
 have r2:=ZaY s hs hr (f+1) 2 (([]++(if (Jo s 0).2 then [(0:Int)]else []))++(if (Jo s 1).2 then [(1:Int)]else [])) (by omega) (by have:=l0 (Jo s 0).2 0;have:=l0 (Jo s 1).2 1;simp only[List.nil_append,List.length_append];omega)
 have r3:n154_0 r117 (f+1) () (s.t,()) (KT s,((3:Int),()))=some (Sum.inl (KT s,((3:Int),())),(s.t,())):=rfl
 exact Za (r0.trans (r1.trans (r2.trans r3))) rfl
theorem Za0 (s:Zc) (hs:ZM s.t) (hr:ZA s) (k:Nat) (i:Nat) (l:List Int) (hi:i≤2) (hl:l.length≤3):
  n238_0 r25 (k+1) () (s.t,()) (l,((i:Int),()))=n238_0 r25 k () (s.t,()) (l++(if (Jo s (i:Int)).2 then [(i:Int)]else []),(((i+1:Nat):Int),())):=by
 have e0:n238_0 r25 (k+1) () (s.t,()) (l,((i:Int),()))=bif ltI (i:Int) 3 then (r25 (s.t,((i:Int),()))).bind (fun r0=>bif r0.1.2.1 then (bif leN (l.length+1) (E.most .i)then n238_0 r25 k () (s.t,()) (l++[(i:Int)],(wI ((i:Int)+1),()))else none)else n238_0 r25 k () (s.t,()) (l,(wI ((i:Int)+1),())))else some (Sum.inl (l,((i:Int),())),(s.t,())):=rfl
 rw[e0,Zf (by omega),cond_true,Zhu s (i:Int) hs hr,Option.bind_some,Jd (by omega),ZO (by simp only[E.most];omega)]
 cases (Jo s (i:Int)).2 with
 |true=>rfl
 |false=>simp
theorem ZmB (s:Zc) (hs:ZM s.t) (hr:ZA s):r238 (s.t,())=some ((KT s,()),()):=by
 obtain ⟨f,hf⟩: ∃f,fuel=f+4:=⟨fuel-4,by have:=ZQ;omega⟩
 unfold r238 m238 L238_0
 rw[hf]
 have l0: ∀b:Bool,∀x:Int,(if b then [x]else []).length≤1:=fun b x=>by cases b<;>simp
 have r0:=Za0 s hs hr (f+3) 0 [] (by omega) (by decide)
 have r1:=Za0 s hs hr (f+2) 1 ([]++(if (Jo s 0).2 then [(0:Int)]else [])) (by omega) (by have:=l0 (Jo s 0).2 0;simp only[List.nil_append];omega)
 have r2:=Za0 s hs hr (f+1) 2 (([]++(if (Jo s 0).2 then [(0:Int)]else []))++(if (Jo s 1).2 then [(1:Int)]else [])) (by omega) (by have:=l0 (Jo s 0).2 0;have:=l0 (Jo s 1).2 1;simp only[List.nil_append,List.length_append];omega)
 have r3:n238_0 r25 (f+1) () (s.t,()) (KT s,((3:Int),()))=some (Sum.inl (KT s,((3:Int),())),(s.t,())):=rfl
 exact Za (r0.trans (r1.trans (r2.trans r3))) rfl
def ZmM (s:Zc):Int:=if Qd s.t then QG s else 6
theorem Zg6 (s:Zc) (hs:ZM s.t):r155 (s.t,())=some ((ZmM s,()),()):=by
 unfold r155 m155 ZmM
 refine Za (Vu s.t hs) ?_
 show (bif !Qd s.t then _ else _)=_
 cases ho:Qd s.t with
 |false=>rfl
 |true=>exact Za (ZkT s (JN.1 ho)) rfl
theorem ZmE (s:Zc) (hs:ZM s.t):r239 (s.t,())=some ((ZmM s,()),()):=by
 unfold r239 m239 ZmM
 refine Za (KK s.t hs) ?_
 show (bif !Qd s.t then _ else _)=_
 cases ho:Qd s.t with
 |false=>rfl
 |true=>exact Za (Zd4 s (JN.1 ho)) rfl
theorem ZeQ {s:Zc} (hs:ZM s.t) (hr:ZA s):ZM (Ys s).t∧ZA (Ys s):=by
 unfold Ys
 cases ho:Qd s.t with
 |false=>exact ⟨hs,hr⟩
 |true=>exact ⟨ZlC (Ux (JN.1 ho)).1 hr,hr⟩
def ZiG (s:Zc):Bool:=Qd s.t&&(ltI 0 ((KT s).length:Int)||eqI (ZmM (Ys s)) 5)
theorem ZeF (s:Zc) (hs:ZM s.t) (hr:ZA s):r79 (s.t,())=some ((ZiG s,()),()):=by
 obtain ⟨l1,l2⟩:=ZeQ hs hr
 unfold r79 m79 ZiG
 refine Za (Vu s.t hs) ?_
 show (bif Qd s.t then _ else _)=_
 cases Qd s.t with
 |false=>rfl
 |true=>
  refine Za (Zl6 s hs hr) ?_
  show (bif ltI 0 ((KT s).length:Int)then _ else _)=_
  cases ltI 0 ((KT s).length:Int)with
  |true=>rfl
  |false=>exact Za (ZcQ s hs hr) (Za (Zg6 (Ys s) l1) rfl)
theorem ZeJ (s:Zc) (hs:ZM s.t) (hr:ZA s):r179 (s.t,())=some ((ZiG s,()),()):=by
 obtain ⟨l1,l2⟩:=ZeQ hs hr
 unfold r179 m179 ZiG
 refine Za (KK s.t hs) ?_
 show (bif Qd s.t then _ else _)=_
 cases Qd s.t with
 |false=>rfl
 |true=>
  refine Za (ZmB s hs hr) ?_
  show (bif ltI 0 ((KT s).length:Int)then _ else _)=_
  cases ltI 0 ((KT s).length:Int)with
  |true=>rfl
  |false=>exact Za (Zby s hs hr) (Za (ZmE (Ys s) l1) rfl)

end Go.Proofs.YtleidaafbhojfaaGreatDoor.Plain
