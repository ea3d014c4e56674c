/- Plain laws of the printed functions: StepI, StepJ, PlayI, FairI. No condition beyond those that each lemma states. -/
import Derived.Test.YtgpifihakjdfeaaGreatPC
set_option linter.unusedVariables false
set_option linter.unusedSimpArgs false
namespace Go.Proofs.YtgpifihakjdfeaaGreat.Plain
open Go Go.Tev
def Room (s:SplitM):Prop:=s.reads.length≤4398046511000
theorem knows_ok (s:SplitM) (b:Bool):r167 (s.t,(b,()))=some ((),((knowS s b).t,())):=rfl
theorem splitRead_ok (s:SplitM) (a:Int) (h:SplitP s) (hr:Room s):r218 (s.t,(a,()))=some ((readSV s a,()),((readS s a).t,())):=by
 unfold Room at hr
 have hl:leN (s.reads.length+1) (E.most .i)=true:=leN_t (by simp only[E.most];omega)
 unfold r218 m218 readS readSV
 refine bind_step (implRegion_ok (a,())) ?_
 show (bif eqI (rgT a).1 2 then _ else bif eqI (rgT a).1 3 then _ else bif eqI (rgT a).1 4 then _ else bif eqI (rgT a).1 7 then _ else _)=_
 by_cases c2:(rgT a).1=2
 ·rw[eqI_t c2,if_pos c2,if_pos c2,cond_true]
  refine bind_step (read_ok s.pic.ppu h.pic.ppu (rgT a).2) ?_
  obtain ⟨e1,e2⟩:=readP_rows s.pic.ppu (rgT a).2
  generalize readP s.pic.ppu (rgT a).2=q at e1 e2⊢
  obtain ⟨T,c,sc,ad,pal,bl,tb,ds⟩:=q
  have e1:tb=s.pic.ppu.table:=e1
  have e2:ds=s.pic.ppu.dots:=e2
  subst e1 e2
  show (bif leN (s.reads.length+1) (E.most .i)then _ else none)=_
  rw[hl];rfl
 rw[eqI_f c2,if_neg c2,if_neg c2,cond_false]
 by_cases c3:(rgT a).1=3
 ·rw[eqI_t c3,if_pos c3,if_pos c3,cond_true]
  refine bind_step (implApuRead_ok s.snd.apu h.snd.apu (rgT a).2) ?_
  show (bif eqI (rgT a).2 2 then _ else _)=_
  by_cases a2:(rgT a).2=2
  ·rw[eqI_t a2,if_pos a2,cond_true]
   refine bind_step (knows_ok {s with snd:={s.snd with apu:=readA s.snd.apu (rgT a).2}} false) ?_
   show (bif leN (s.reads.length+1) (E.most .i)then _ else none)=_
   rw[hl];rfl
  ·rw[eqI_f a2,if_neg a2]
   show (bif leN (s.reads.length+1) (E.most .i)then _ else none)=_
   rw[hl];rfl
 rw[eqI_f c3,if_neg c3,if_neg c3,cond_false]
 by_cases c4:(rgT a).1=4
 ·rw[eqI_t c4,if_pos c4,if_pos c4,cond_true]
  refine bind_step (implPadRead_ok s.pad s.pads s.T h.pads h.t) ?_
  show (bif leN (s.reads.length+1) (E.most .i)then _ else none)=_
  rw[hl];rfl
 rw[eqI_f c4,if_neg c4,if_neg c4,cond_false]
 by_cases c7:(rgT a).1=7
 ·have hz:peekT s.img s.mem a=0:=by
   unfold peekT
   rw[if_neg (by omega),if_neg (by omega),if_neg (by omega)]
  rw[eqI_t c7,hz];rfl
 ·rw[eqI_f c7,cond_false]
  exact bind_step (implPeek1_ok s.img s.mem a h.mem) rfl
theorem lists_small {s:SplitM} (h:SplitP s):s.pic.list.length≤16∧s.snd.list.length≤16:=by
 have h1:=h.pic.ring.len
 have h2:=h.pic.ring.c1
 have h3:=h.snd.ring.len
 have h4:=h.snd.ring.c1
 omega
theorem splitWrite_ok (s:SplitM) (a v:Int) (h:SplitP s) (hv:0≤v∧v≤255):r219 (s.t,(a,(v,())))=some ((),((writeS s a v).t,())):=by
 obtain ⟨l1,l2⟩:=lists_small h
 have hl1:leN (s.pic.list.length+1) (E.most .t)=true:=leN_t (by simp only[E.most];omega)
 have hl2:leN (s.snd.list.length+1) (E.most .t)=true:=leN_t (by simp only[E.most];omega)
 have k:r225 (v,())=some ((v,()),()):=by
  rw[implByte_ok (v,())]
  show some ((v%256,()),())=_
  rw[show v%256=v by omega]
 unfold r219 m219 writeS
 refine bind_step (implRegion_ok (a,())) (bind_step k ?_)
 show (bif eqI (rgT a).1 2 then _ else bif eqI (rgT a).1 3 then _ else bif eqI (rgT a).1 4 then _ else bif eqI (rgT a).1 1 then _ else bif eqI (rgT a).1 5 then _ else bif eqI (rgT a).1 6 then _ else _)=_
 by_cases c2:(rgT a).1=2
 ·rw[eqI_t c2,if_pos c2]
  show (bif leN (s.pic.list.length+1) (E.most .t)then (bif eqI (rgT a).2 0 then _ else _)else none)=_
  rw[hl1]
  by_cases a0:(rgT a).2=0
  ·rw[eqI_t a0,if_pos a0];rfl
  ·rw[eqI_f a0,if_neg a0];rfl
 rw[eqI_f c2,if_neg c2,cond_false]
 by_cases c3:(rgT a).1=3
 ·rw[eqI_t c3,if_pos c3]
  show (bif leN (s.snd.list.length+1) (E.most .t)then (bif eqI (rgT a).2 3 then _ else bif eqI (rgT a).2 2 then (bif eqI (Int.tmod v 2) 0 then _ else _)else _)else none)=_
  rw[hl2,cond_true,tmod_nn hv.1]
  have kn:=knows_ok {s with snd:={s.snd with list:=s.snd.list++[(s.T,((rgT a).2,v))]}} false
  by_cases a3:(rgT a).2=3
  ·rw[eqI_t a3,if_pos (.inl a3),cond_true]
   exact bind_step kn rfl
  rw[eqI_f a3,cond_false]
  by_cases a2:(rgT a).2=2
  ·rw[eqI_t a2]
   by_cases v2:v%2=0
   ·rw[cond_true,eqI_t v2,if_pos (.inr ⟨a2,v2⟩),cond_true]
    exact bind_step kn rfl
   ·rw[eqI_f v2,if_neg (by omega)];rfl
  ·rw[eqI_f a2,if_neg (by omega)];rfl
 rw[eqI_f c3,if_neg c3,cond_false]
 by_cases c4:(rgT a).1=4
 ·rw[eqI_t c4,if_pos c4,cond_true]
  exact bind_step (implPadWrite_ok s.pad s.pads s.T v h.pads h.t) rfl
 rw[eqI_f c4,if_neg c4,cond_false]
 have kp:=implPoke_ok s.img s.mem a v h.mem
 by_cases c1:(rgT a).1=1
 ·rw[eqI_t c1,cond_true]
  exact bind_step kp rfl
 rw[eqI_f c1,cond_false]
 by_cases c5:(rgT a).1=5
 ·rw[eqI_t c5,cond_true]
  exact bind_step kp rfl
 rw[eqI_f c5,cond_false]
 by_cases c6:(rgT a).1=6
 ·rw[eqI_t c6,cond_true]
  exact bind_step kp rfl
 ·rw[eqI_f c6,cond_false]
  have e:pokeT s.img s.mem a v=s.mem:=by
   unfold pokeT
   rw[if_neg c1,if_neg (by omega)]
  rw[e]
theorem interrupt_ok (s:SplitM) (v:Int) (h:SplitP s) (hv:65530≤v∧v≤65534):r168 (s.t,(v,()))=some ((),((interS s v).t,())):=by
 unfold r168 m168
 have e:wI (v+1)=v+1:=wI_id (by omega) (by omega)
 have k:=implPeek1_ok s.img s.mem (v+1) h.mem
 rw[←e]at k
 refine bind_step (implPeek1_ok s.img s.mem v h.mem) (bind_step k (bind_step (implJoin_ok (peekT s.img s.mem v,(peekT s.img s.mem (wI (v+1)),()))) (bind_step (enter_ok s.mem s.cpu (joinN (peekT s.img s.mem v) (peekT s.img s.mem (wI (v+1)))) h.mem.ram h.cpu) ?_)))
 rw[e];rfl
theorem readS_rows (s:SplitM) (a:Int):(readS s a).pic.ppu.table=s.pic.ppu.table∧(readS s a).pic.ppu.dots=s.pic.ppu.dots∧(readS s a).pic.list=s.pic.list∧(readS s a).pic.frames=s.pic.frames∧(readS s a).snd.list=s.snd.list∧(readS s a).snd.samples=s.snd.samples:=by
 obtain ⟨e1,e2⟩:=readP_rows s.pic.ppu (rgT a).2
 unfold readS
 repeat' split
 all_goals first|exact ⟨e1,e2,rfl,rfl,rfl,rfl⟩|exact ⟨rfl,rfl,rfl,rfl,rfl,rfl⟩
theorem writeS_rows (s:SplitM) (a v:Int):(writeS s a v).pic.ppu=s.pic.ppu∧(writeS s a v).pic.frames=s.pic.frames∧(writeS s a v).snd.samples=s.snd.samples∧(writeS s a v).snd.apu=s.snd.apu∧(writeS s a v).reads=s.reads:=by
 unfold writeS
 repeat' split
 all_goals exact ⟨rfl,rfl,rfl,rfl,rfl⟩
theorem op_step (s:SplitM) (h:ReadyP s) (hr:Room s):r170 (s.t,())=some ((opCycN (opS s),()),((opDo s).t,())):=by
 have hp:=h.p
 unfold r170 m170 opDo
 refine bind_step (fetch_ok s.img s.mem s.cpu.pc hp.mem hp.cpu.pc) (bind_step (implAccess_ok (opS s) (argS s) s.cpu hp.cpu (arg_b hp)) ?_)
 show (bif eqI (opAccN (opS s)) 1 then _ else bif eqI (opAccN (opS s)) 2 then _ else _)=_
 by_cases o1:opAccN (opS s)=1
 ·rw[eqI_t o1,if_pos o1,cond_true]
  refine bind_step (splitRead_ok s (adrS s) hp hr) ?_
  have hv:=readSV_b hp (adrS s)
  obtain ⟨⟨f1,f2,f3,f4,f5,f6⟩,f7,f8⟩:=readS_f s (adrS s)
  obtain ⟨g1,g2,g3,g4,g5,g6⟩:=readS_rows s (adrS s)
  generalize readSV s (adrS s)=v at hv⊢
  generalize readS s (adrS s)=s' at f1 f2 f3 f4 f5 f6 f7 f8 g1 g2 g3 g4 g5 g6⊢
  obtain ⟨img,pads,mem,cpu,pad,T,nmi,ctrl,kn,ka,st,rd,⟨⟨pT,pc,ps,pa,pp,pb,ptb,pds⟩,pcap,pl,pf⟩,⟨sa,scap,sl,ss⟩⟩:=s'
  have f1:img=s.img:=f1
  have f2:pads=s.pads:=f2
  have f7:cpu=s.cpu:=f7
  have f8:mem=s.mem:=f8
  have g1:ptb=s.pic.ppu.table:=g1
  have g2:pds=s.pic.ppu.dots:=g2
  have g3:pl=s.pic.list:=g3
  have g4:pf=s.pic.frames:=g4
  have g5:sl=s.snd.list:=g5
  have g6:ss=s.snd.samples:=g6
  subst f1 f2 f7 f8 g1 g2 g3 g4 g5 g6
  exact bind_step (exec_ok s.mem s.cpu (opS s) (argS s) v hp.mem.ram hp.cpu hv) (bind_step (implOpCycles_ok (opS s,())) rfl)
 rw[eqI_f o1,if_neg o1,cond_false]
 by_cases o2:opAccN (opS s)=2
 ·rw[eqI_t o2,if_pos o2,cond_true]
  have ev:accV (opS s) s.cpu.a=s.cpu.a%256:=by unfold accV;rw[if_pos o2]
  have kw:=splitWrite_ok s (adrS s) (s.cpu.a%256) hp (mod256 _)
  rw[←ev]at kw
  refine bind_step kw ?_
  rw[ev]
  have hq:=writeS_P hp (mod256 s.cpu.a) (h.room o2) (h.room' o2)
  obtain ⟨⟨f1,f2,f3,f4,f5,f6⟩,f7⟩:=writeS_f s (adrS s) (s.cpu.a%256)
  obtain ⟨g1,g2,g3,g4,g5⟩:=writeS_rows s (adrS s) (s.cpu.a%256)
  generalize writeS s (adrS s) (s.cpu.a%256)=s' at hq f1 f2 f3 f4 f5 f6 f7 g1 g2 g3 g4 g5⊢
  have h1:=hq.mem.ram
  have h2:=hq.cpu
  clear hq
  obtain ⟨img,pads,mem,cpu,pad,T,nmi,ctrl,kn,ka,st,rd,⟨pp,pcap,pl,pf⟩,⟨sa,scap,sl,ss⟩⟩:=s'
  have f1:img=s.img:=f1
  have f2:pads=s.pads:=f2
  have g1:pp=s.pic.ppu:=g1
  have g2:pf=s.pic.frames:=g2
  have g3:ss=s.snd.samples:=g3
  have g4:sa=s.snd.apu:=g4
  have g5:rd=s.reads:=g5
  subst f1 f2 g1 g2 g3 g4 g5
  exact bind_step (exec_ok mem cpu (opS s) (argS s) 0 h1 h2 (by decide)) (bind_step (implOpCycles_ok (opS s,())) rfl)
 ·rw[eqI_f o2,if_neg o2,cond_false]
  have ev:accV (opS s) s.cpu.a=0:=by unfold accV;rw[if_neg o2]
  have k:=exec_ok s.mem s.cpu (opS s) (argS s) 0 hp.mem.ram hp.cpu (by decide)
  rw[←ev]at k
  refine bind_step k (bind_step (implOpCycles_ok (opS s,())) ?_)
  rw[ev];rfl
structure SameRows (s s':SplitM):Prop where
 img:s'.img=s.img
 pads:s'.pads=s.pads
 table:s'.pic.ppu.table=s.pic.ppu.table
 dots:s'.pic.ppu.dots=s.pic.ppu.dots
 frames:s'.pic.frames=s.pic.frames
 samples:s'.snd.samples=s.snd.samples
theorem SameRows.rfl' (s:SplitM):SameRows s s:=⟨rfl,rfl,rfl,rfl,rfl,rfl⟩
theorem opDo_rows (s:SplitM):SameRows s (opDo s):=by
 unfold opDo
 split
 ·obtain ⟨⟨f1,f2,_⟩,_⟩:=readS_f s (adrS s)
  obtain ⟨g1,g2,g3,g4,g5,g6⟩:=readS_rows s (adrS s)
  exact ⟨f1,f2,g1,g2,g4,g6⟩
 split
 ·obtain ⟨⟨f1,f2,_⟩,_⟩:=writeS_f s (adrS s) (s.cpu.a%256)
  obtain ⟨g1,g2,g3,g4,g5⟩:=writeS_rows s (adrS s) (s.cpu.a%256)
  refine ⟨f1,f2,?_,?_,g2,g3⟩
  ·show (writeS s (adrS s) (s.cpu.a%256)).pic.ppu.table=_;rw[g1]
  ·show (writeS s (adrS s) (s.cpu.a%256)).pic.ppu.dots=_;rw[g1]
 ·exact ⟨rfl,rfl,rfl,rfl,rfl,rfl⟩
theorem learnS_rows (s:SplitM):SameRows s (learnS s):=by
 unfold learnS
 split<;>exact ⟨rfl,rfl,rfl,rfl,rfl,rfl⟩
theorem doneS_rows (s:SplitM):SameRows s (doneS s).1:=by
 unfold doneS
 split
 ·exact ⟨rfl,rfl,rfl,rfl,rfl,rfl⟩
 split
 ·exact ⟨rfl,rfl,rfl,rfl,rfl,rfl⟩
 ·exact opDo_rows s
theorem SameRows.trans {a b c:SplitM} (h:SameRows a b) (k:SameRows b c):SameRows a c:=⟨k.img.trans h.img,k.pads.trans h.pads,k.table.trans h.table,k.dots.trans h.dots,k.frames.trans h.frames,k.samples.trans h.samples⟩
theorem stepS_rows (s:SplitM):SameRows s (stepS s):=by
 have h:=(learnS_rows s).trans (doneS_rows (learnS s))
 exact ⟨h.img,h.pads,h.table,h.dots,h.frames,h.samples⟩
theorem beat_self (t:Int):beatN t t=false:=decide_eq_false (by omega)
theorem ask_learn (s:SplitM) (hn:s.nmi=false):askM (learnS s)=((learnS s).known&& !s.cpu.i):=by
 unfold learnS
 cases hm:mustM s with
 |true=>
  rw[if_pos rfl]
  unfold askM knowS
  rw[show beatN s.T s.T=false from beat_self _]
  rfl
 |false=>
  rw[if_neg (by simp)]
  unfold mustM at hm
  rw[hn]at hm
  unfold askM
  cases hi:s.cpu.i with
  |true=>simp
  |false=>
   rw[hi]at hm
   have hb:beatN s.knownAt s.T=false:=by simpa using hm
   rw[hb];rfl
theorem ready_of {s:SplitM} (h:SplitP s) (hw:waitM s=0) (hn:s.nmi=false) (ha:askM s=false):ReadyP (learnS s):=by
 have hL:=learnS_P h
 obtain ⟨e1,e2,e3,e4,e5,e6,e7,e8,e9,e10⟩:=learnS_same s
 have eop:opS (learnS s)=opS s:=by unfold opS;rw[e1,e2,e3]
 have earg:argS (learnS s)=argS s:=by unfold argS;rw[e1,e2,e3]
 have eadr:adrS (learnS s)=adrS s:=by unfold adrS;rw[eop,earg,e3]
 unfold waitM at hw
 rw[hn,if_neg (by simp)]at hw
 split at hw
 ·omega
 rw[if_neg (by rw[ha];simp)]at hw
 split at hw
 ·omega
 split at hw
 ·omega
 split at hw
 ·omega
 rename_i h3
 split at hw
 ·omega
 rename_i h4
 exact ⟨hL,fun a b=>by rw[eop]at a;rw[eadr]at b;rw[e4];rcases Int.lt_or_le (s.pic.list.length:Int) s.pic.cap with h5|h5;exact h5;exact absurd ⟨a,b,h5⟩ h3,
  fun a b=>by rw[eop]at a;rw[eadr]at b;rw[e5];rcases Int.lt_or_le (s.snd.list.length:Int) s.snd.cap with h5|h5;exact h5;exact absurd ⟨a,b,h5⟩ h4⟩
theorem wait_seven {s:SplitM} (hw:waitM s=0) (hq:s.nmi=true∨askM s=true):s.T+7≤20000:=by
 unfold waitM at hw
 cases hn:s.nmi with
 |true=>rw[hn,if_pos rfl]at hw;exact overN_zero hw
 |false=>
  rw[hn,if_neg (by simp)]at hw
  split at hw
  ·omega
  rcases hq with hq|hq
  ·rw[hn]at hq;cases hq
  ·rw[if_pos hq]at hw;exact overN_zero hw
theorem wait_op {s:SplitM} (hw:waitM s=0) (hn:s.nmi=false) (ha:askM s=false):s.T+opCycN (opS s)≤20000:=by
 unfold waitM at hw
 rw[hn,if_neg (by simp)]at hw
 split at hw
 ·omega
 rw[if_neg (by rw[ha];simp)]at hw
 split at hw
 ·omega
 split at hw
 ·omega
 split at hw
 ·omega
 split at hw
 ·omega
 exact overN_zero hw
theorem fin_ok (s:SplitM) (n:Int) (ht:0≤s.T) (hn:0≤n) (htn:s.T+n≤20000) (h0:0≤s.steps) (h1:s.steps≤20000):
  (bif ltI 127 s.ctrl then (r171 (s.T,(wI (s.T+n),()))).bind (fun r=>some (((true,()):Bool×Unit),(({s with T:=wI (s.T+n),nmi:=r.1.1,steps:=wI (s.steps+1)}:SplitM).t,())))
   else some ((true,()),(({s with T:=wI (s.T+n),nmi:=false,steps:=wI (s.steps+1)}:SplitM).t,())))=some ((true,()),((endS s.T (s,n)).t,())):=by
 rw[wI_id (x:=s.T+n) (by omega) (by omega),wI_id (x:=s.steps+1) (by omega) (by omega),implBlankIn_ok s.T (s.T+n) (by omega) (by omega)]
 unfold endS
 simp only
 cases ltI 127 s.ctrl<;>rfl
theorem step_none (s:SplitM) (h:SplitP s) (hw:waitM s≠0):r105 (s.t,())=some ((false,()),(s.t,())):=by
 unfold r105 m105
 refine bind_step (wait_ok s h) ?_
 show (bif neI (waitM s) 0 then _ else _)=_
 rw[neI_t hw];rfl
theorem step_some (s:SplitM) (h:SplitP s) (hr:Room s) (hw:waitM s=0):r105 (s.t,())=some ((true,()),((stepS s).t,())):=by
 have ht:=h.t
 have hst:=h.steps
 unfold r105 m105
 refine bind_step (wait_ok s h) ?_
 show (bif neI (waitM s) 0 then _ else _)=_
 rw[neI_f hw,cond_false]
 refine bind_step (mustAsk_ok s h) ?_
 unfold stepS
 cases hm:mustM s with
 |true=>
  have hl:learnS s=knowS s s.snd.apu.irq:=by unfold learnS;rw[hm,if_pos rfl]
  have hn:s.nmi=false:=by
   unfold mustM at hm
   cases hn:s.nmi with
   |true=>rw[hn]at hm;cases hm
   |false=>rfl
  have hL:SplitP (knowS s s.snd.apu.irq):=hl▸learnS_P h
  rw[hl,cond_true]
  refine bind_step (knows_ok s s.snd.apu.irq) ?_
  show (bif s.nmi then _ else _)=_
  rw[hn,cond_false]
  refine bind_step (isAsked_ok (knowS s s.snd.apu.irq) hL) ?_
  have ea:=ask_learn s hn
  rw[hl]at ea
  unfold doneS
  rw[show (knowS s s.snd.apu.irq).nmi=false from hn,if_neg (by simp),show (knowS s s.snd.apu.irq).cpu.i=s.cpu.i from rfl,←ea]
  have ek:askM s=askM (knowS s s.snd.apu.irq):=by rw[ea,←hl];exact (learn_known s hn).symm
  cases ha:askM (knowS s s.snd.apu.irq)with
  |true=>
   rw[if_pos rfl]
   rw[cond_true]
   refine bind_step (interrupt_ok (knowS s s.snd.apu.irq) 65534 hL (by decide)) ?_
   exact fin_ok (interS (knowS s s.snd.apu.irq) 65534) 7 ht.1 (by decide) (show s.T+7≤20000 from wait_seven hw (.inr (ek.trans ha))) hst.1 (show s.steps≤20000 by omega)
  |false=>
   rw[if_neg (by simp),cond_false]
   have hq:=ready_of h hw hn (ek.trans ha)
   have hp:=(opDo_P hq).2
   have hrow:=opDo_rows (learnS s)
   rw[hl]at hq hp hrow
   refine bind_step (op_step (knowS s s.snd.apu.irq) hq hr) ?_
   have k1:s.T+opCycN (opS (knowS s s.snd.apu.irq))≤20000:=wait_op hw hn (ek.trans ha)
   have k2:=opCycN_b (opS (knowS s s.snd.apu.irq))
   generalize opCycN (opS (knowS s s.snd.apu.irq))=n at k1 k2⊢
   obtain ⟨f1,f2,f3,f4,f5,f6⟩:=hp
   obtain ⟨g1,g2,g3,g4,g5,g6⟩:=hrow
   generalize opDo (knowS s s.snd.apu.irq)=s' at f1 f2 f3 f4 f5 f6 g1 g2 g3 g4 g5 g6⊢
   obtain ⟨img,pads,mem,cpu,pad,T,nmi,ctrl,kn,ka,st,rd,⟨⟨pT,pc,ps,pa,pp,pb,ptb,pds⟩,pcap,pl,pf⟩,⟨sa,scap,sl,ss⟩⟩:=s'
   have g1:img=s.img:=g1
   have g2:pads=s.pads:=g2
   have g3:ptb=s.pic.ppu.table:=g3
   have g4:pds=s.pic.ppu.dots:=g4
   have g5:pf=s.pic.frames:=g5
   have g6:ss=s.snd.samples:=g6
   have f3:T=s.T:=f3
   have f5:st=s.steps:=f5
   subst g1 g2 g3 g4 g5 g6 f3 f5
   exact fin_ok ⟨s.img,s.pads,mem,cpu,pad,s.T,nmi,ctrl,kn,ka,s.steps,rd,⟨⟨pT,pc,ps,pa,pp,pb,s.pic.ppu.table,s.pic.ppu.dots⟩,pcap,pl,s.pic.frames⟩,⟨sa,scap,sl,s.snd.samples⟩⟩ n ht.1 (by omega) k1 hst.1 (show s.steps≤20000 by omega)
 |false=>
  have hl:learnS s=s:=by unfold learnS;rw[hm,if_neg (by simp)]
  rw[hl,cond_false]
  show (bif s.nmi then _ else _)=_
  unfold doneS
  cases hn:s.nmi with
  |true=>
   rw[if_pos rfl,cond_true]
   have h2:SplitP {s with nmi:=false}:=⟨h.mem,h.pads,h.cpu,h.pic,h.snd,h.pad,h.ctrl,h.t,h.known,h.steps,h.pt,h.st,h.pl,h.sl⟩
   refine bind_step (interrupt_ok {s with nmi:=false} 65530 h2 (by decide)) ?_
   exact fin_ok (interS {s with nmi:=false} 65530) 7 ht.1 (by decide) (show s.T+7≤20000 from wait_seven hw (.inl hn)) hst.1 (show s.steps≤20000 by omega)
  |false=>
   rw[if_neg (by simp),cond_false]
   refine bind_step (isAsked_ok s h) ?_
   have ea:=ask_learn s hn
   rw[hl]at ea
   rw[←ea]
   cases ha:askM s with
   |true=>
    rw[if_pos rfl]
    rw[cond_true]
    refine bind_step (interrupt_ok s 65534 h (by decide)) ?_
    exact fin_ok (interS s 65534) 7 ht.1 (by decide) (show s.T+7≤20000 from wait_seven hw (.inr ha)) hst.1 (show s.steps≤20000 by omega)
   |false=>
    rw[if_neg (by simp),cond_false]
    have hq:=ready_of h hw hn ha
    have hp:=(opDo_P hq).2
    have hrow:=opDo_rows (learnS s)
    rw[hl]at hq hp hrow
    refine bind_step (op_step s hq hr) ?_
    have k1:s.T+opCycN (opS s)≤20000:=wait_op hw hn ha
    have k2:=opCycN_b (opS s)
    generalize opCycN (opS s)=n at k1 k2⊢
    obtain ⟨f1,f2,f3,f4,f5,f6⟩:=hp
    obtain ⟨g1,g2,g3,g4,g5,g6⟩:=hrow
    generalize opDo s=s' at f1 f2 f3 f4 f5 f6 g1 g2 g3 g4 g5 g6⊢
    obtain ⟨img,pads,mem,cpu,pad,T,nmi,ctrl,kn,ka,st,rd,⟨⟨pT,pc,ps,pa,pp,pb,ptb,pds⟩,pcap,pl,pf⟩,⟨sa,scap,sl,ss⟩⟩:=s'
    have g1:img=s.img:=g1
    have g2:pads=s.pads:=g2
    have g3:ptb=s.pic.ppu.table:=g3
    have g4:pds=s.pic.ppu.dots:=g4
    have g5:pf=s.pic.frames:=g5
    have g6:ss=s.snd.samples:=g6
    have f3:T=s.T:=f3
    have f5:st=s.steps:=f5
    subst g1 g2 g3 g4 g5 g6 f3 f5
    exact fin_ok ⟨s.img,s.pads,mem,cpu,pad,s.T,nmi,ctrl,kn,ka,s.steps,rd,⟨⟨pT,pc,ps,pa,pp,pb,s.pic.ppu.table,s.pic.ppu.dots⟩,pcap,pl,s.pic.frames⟩,⟨sa,scap,sl,s.snd.samples⟩⟩ n ht.1 (by omega) k1 hst.1 (show s.steps≤20000 by omega)
theorem copySplit_t (s:SplitM) (h:SplitP s) (hr:Room s):r58 (s.t,())=some ((s.t,()),()):=copySplit_ok s.t (h.s (by unfold Room at hr;omega))
def stepGet (s:SplitM):SplitM:=if waitM s=0 then stepS s else s
def stepIs (s:SplitM):Bool:=decide (waitM s=0)
theorem step_ok (s:SplitM) (h:SplitP s) (hr:Room s):r105 (s.t,())=some ((stepIs s,()),((stepGet s).t,())):=by
 unfold stepGet stepIs
 by_cases hw:waitM s=0
 ·rw[if_pos hw,decide_eq_true hw];exact step_some s h hr hw
 ·rw[if_neg hw,decide_eq_false hw];exact step_none s h hw
theorem stepGet_rows (s:SplitM):SameRows s (stepGet s):=by
 unfold stepGet
 split
 ·exact stepS_rows s
 ·exact .rfl' s
def pickGet (s:SplitM) (who:Int):SplitM:=(pickM s who).getD s
def pickIs (s:SplitM) (who:Int):Bool:=(pickM s who).isSome
theorem pick_0 (s:SplitM):pickGet s 0=stepGet s∧pickIs s 0=stepIs s:=by
 unfold pickGet pickIs pickM stepGet stepIs
 rw[if_pos rfl]
 by_cases hw:waitM s=0
 ·rw[if_pos hw,if_pos hw,decide_eq_true hw];exact ⟨rfl,rfl⟩
 ·rw[if_neg hw,if_neg hw,decide_eq_false hw];exact ⟨rfl,rfl⟩
theorem pickGet_P {s:SplitM} (h:SplitP s) (who:Int):SplitP (pickGet s who)∧(pickGet s who).reads.length≤s.reads.length+1:=by
 unfold pickGet
 cases hp:pickM s who with
 |none=>exact ⟨h,Nat.le_succ _⟩
 |some v=>exact pickM_P h hp
theorem stepGet_P {s:SplitM} (h:SplitP s):SplitP (stepGet s)∧(stepGet s).reads.length≤s.reads.length+1:=by
 rw[←(pick_0 s).1];exact pickGet_P h 0
def split0:Tup splitL:=([],([],([],(0,(0,(0,(0,(0,(false,(false,(false,(false,(false,(0,(0,(false,(0,(false,(0,(0,([],(0,(0,(0,(0,(0,(false,([],([],(0,([],([],(0,(0,(0,(0,(0,(false,(false,(0,([],([],()))))))))))))))))))))))))))))))))))))))))))
theorem level_ok (s:SplitM) (h:SplitP s):r78 (s.t,())=some ((),((levelM s).t,())):=by
 unfold r78 m78
 exact bind_step (picCatch_ok s.pic s.T h.pic) (bind_step (sndCatch_ok s.snd s.T h.snd) rfl)
def levelA (s:SplitM):SplitM:=if splitOk s.t then levelM s else s
theorem implLevel_a (s:SplitM) (hs:splitOkS s.t) (hr:Room s):r23 (s.t,())=some (((levelA s).t,()),()):=by
 unfold r23 m23 levelA
 refine bind_step (copySplit_ok s.t hs) (bind_step (implSplitOk_ok s.t hs) ?_)
 show (bif splitOk s.t then _ else _)=_
 cases ho:splitOk s.t with
 |true=>exact bind_step (level_ok s (splitOk_iff.1 ho)) rfl
 |false=>rfl
theorem levelA_P {s:SplitM} (h:SplitP s):levelA s=levelM s:=by
 unfold levelA
 rw[splitOk_iff.2 h,if_pos rfl]
theorem levelM_reads (s:SplitM):(levelM s).reads=s.reads:=rfl
def fairM:Nat→SplitM→SplitM×Nat
 |0,s=>(s,0)
 |n+1,s=>if stepIs (levelM s)then ((fairM n (stepGet (levelM s))).1,(fairM n (stepGet (levelM s))).2+1)else (stepGet (levelM s),0)
theorem fairM_P: ∀{n:Nat} {s:SplitM},SplitP s→SplitP (fairM n s).1∧(fairM n s).1.reads.length≤s.reads.length+n∧(fairM n s).2≤n
 |0,s,h=>⟨h,Nat.le_refl _,Nat.le_refl _⟩
 |n+1,s,h=>by
  obtain ⟨a,b⟩:=stepGet_P (levelM_P h).1
  have b:(stepGet (levelM s)).reads.length≤s.reads.length+1:=b
  unfold fairM
  split
  ·obtain ⟨c,d,e⟩:=fairM_P (n:=n) a
   exact ⟨c,by show (fairM n (stepGet (levelM s))).1.reads.length≤_;omega,by show (fairM n (stepGet (levelM s))).2+1≤n+1;omega⟩
  ·exact ⟨a,by show (stepGet (levelM s)).reads.length≤_;omega,Nat.zero_le _⟩
theorem fairM_img: ∀(n:Nat) (s:SplitM),(fairM n s).1.img=s.img∧(fairM n s).1.pads=s.pads
 |0,s=>⟨rfl,rfl⟩
 |n+1,s=>by
  have hr:=stepGet_rows (levelM s)
  unfold fairM
  split
  ·obtain ⟨c,d⟩:=fairM_img n (stepGet (levelM s))
   exact ⟨c.trans hr.img,d.trans hr.pads⟩
  ·exact ⟨hr.img,hr.pads⟩
def manyN (n:Int):Nat:=(if n<3000 then n else 3000).toNat
theorem manyN_le (n:Int):manyN n≤3000:=by unfold manyN;split<;>omega
theorem mnI_eq (n:Int):mnI n 3000=if n<3000 then n else 3000:=by
 unfold mnI
 by_cases h:n<3000
 ·rw[if_neg (by omega),if_pos h]
 ·rw[if_neg h]
  split<;>omega
theorem implFair_loop (n:Int): ∀(k i j:Nat) (s:SplitM),SplitP s→s.reads.length+j≤4398046511000→j<k→manyN n=i+j→
  n38_0 r78 r105 r16 r58 k (n,()) (s.t,()) ((i:Int),())=some (Sum.inl (((i+(fairM j s).2:Nat):Int),()),((fairM j s).1.t,()))
 |0,_,_,_,_,_,h,_=>absurd h (by omega)
 |k+1,i,j,s,h,hr,hk,hm=>by
  have hb:=manyN_le n
  show (bif ltI (i:Int) (mnI n 3000)then (r78 (s.t,())).bind _ else some (Sum.inl ((i:Int),()),(s.t,())))=_
  cases j with
  |zero=>
   rw[mnI_eq,ltI_f (by unfold manyN at hm;omega),cond_false]
   rfl
  |succ j=>
   rw[mnI_eq,ltI_t (by unfold manyN at hm;omega),cond_true]
   have hL:=(levelM_P h).1
   have hroom:Room (levelM s):=by unfold Room;rw[levelM_reads];omega
   refine bind_step (level_ok s h) (bind_step (step_ok (levelM s) hL hroom) ?_)
   obtain ⟨a,b⟩:=stepGet_P hL
   rw[levelM_reads]at b
   have hrow:=stepGet_rows (levelM s)
   have g1:(stepGet (levelM s)).img=s.img:=hrow.img
   have g2:(stepGet (levelM s)).pads=s.pads:=hrow.pads
   show (bif !stepIs (levelM s)then _ else _)=_
   cases hst:stepIs (levelM s)with
   |false=>
    have e:fairM (j+1) s=(stepGet (levelM s),0):=by
     show (if stepIs (levelM s)then _ else _)=_
     rw[hst,if_neg (by simp)]
    rw[e,Bool.not_false,cond_true]
    clear a b hrow e
    obtain ⟨_,_,g3,g4,g5,g6⟩:=stepGet_rows (levelM s)
    generalize stepGet (levelM s)=s' at g1 g2 g3 g4 g5 g6⊢
    generalize hlm:levelM s=l at g3 g4 g5 g6⊢
    obtain ⟨img,pads,mem,cpu,pad,T,nmi,ctrl,kn,ka,st,rd,⟨⟨pT,pc,ps,pa,pp,pb,ptb,pds⟩,pcap,pl,pf⟩,⟨sa,scap,sl,ss⟩⟩:=s'
    have g1:img=s.img:=g1
    have g2:pads=s.pads:=g2
    have g3:ptb=l.pic.ppu.table:=g3
    have g4:pds=l.pic.ppu.dots:=g4
    have g5:pf=l.pic.frames:=g5
    have g6:ss=l.snd.samples:=g6
    subst g1 g2 g3 g4 g5 g6
    rfl
   |true=>
    have e:fairM (j+1) s=((fairM j (stepGet (levelM s))).1,(fairM j (stepGet (levelM s))).2+1):=by
     show (if stepIs (levelM s)then _ else _)=_
     rw[hst,if_pos rfl]
    rw[e,Bool.not_true,cond_false]
    have ih:=implFair_loop n k (i+1) j (stepGet (levelM s)) a (by omega) (by omega) (by omega)
    have w2:wI ((i:Int)+1)=((i+1:Nat):Int):=wI_succ (by omega)
    rw[←w2]at ih
    rw[show i+((fairM j (stepGet (levelM s))).2+1)=i+1+(fairM j (stepGet (levelM s))).2 by omega]
    clear a b hrow e
    obtain ⟨_,_,g3,g4,g5,g6⟩:=stepGet_rows (levelM s)
    generalize stepGet (levelM s)=s' at g1 g2 g3 g4 g5 g6 ih⊢
    generalize hlm:levelM s=l at g3 g4 g5 g6⊢
    obtain ⟨img,pads,mem,cpu,pad,T,nmi,ctrl,kn,ka,st,rd,⟨⟨pT,pc,ps,pa,pp,pb,ptb,pds⟩,pcap,pl,pf⟩,⟨sa,scap,sl,ss⟩⟩:=s'
    have g1:img=s.img:=g1
    have g2:pads=s.pads:=g2
    have g3:ptb=l.pic.ppu.table:=g3
    have g4:pds=l.pic.ppu.dots:=g4
    have g5:pf=l.pic.frames:=g5
    have g6:ss=l.snd.samples:=g6
    subst g1 g2 g3 g4 g5 g6
    exact ih
def fairA (s:SplitM) (n:Int):Tup splitL×Int:=if splitOk s.t then ((fairM (manyN n) s).1.t,((fairM (manyN n) s).2:Int))else (split0,0)
theorem implFair_a (s:SplitM) (n:Int) (hs:splitOkS s.t) (hr:s.reads.length≤1048576):r38 (s.t,(n,()))=some (((fairA s n).1,((fairA s n).2,())),()):=by
 have hroom:Room s:=by unfold Room;omega
 have hb:=manyN_le n
 unfold r38 m38 fairA
 refine bind_step (implSplitOk_ok s.t hs) ?_
 show (bif !splitOk s.t then _ else _)=_
 cases ho:splitOk s.t with
 |false=>rfl
 |true=>
  have h:=splitOk_iff.1 ho
  rw[Bool.not_true,cond_false,if_pos rfl]
  refine bind_step (copySplit_t s h hroom) ?_
  have k:=implFair_loop n fuel 0 (manyN n) s h (by omega) (by have:=fuel_big;omega) (by omega)
  simp only[Int.natCast_zero,Nat.zero_add]at k
  refine bind_step k ?_
  obtain ⟨g1,g2⟩:=fairM_img (manyN n) s
  generalize fairM (manyN n) s=d at g1 g2⊢
  obtain ⟨⟨img,pads,mem,cpu,pad,T,nmi,ctrl,kn,ka,st,rd,pc,sn⟩,n⟩:=d
  have g1:img=s.img:=g1
  have g2:pads=s.pads:=g2
  subst g1 g2
  rfl

end Go.Proofs.YtgpifihakjdfeaaGreat.Plain
