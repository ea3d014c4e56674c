/- Plain laws of the printed functions: StepI, StepJ, PlayI, FairI. No condition beyond those that each lemma states. -/
import Derived.Test.YtgpifihakjdfeaaGreatPC
set_option linter.unusedVariables false
set_option linter.unusedSimpArgs false
namespace Go.Proofs.YtgpifihakjdfeaaGreat.Plain
open Go Go.Tev
def Room (s:SplitM):Prop:=s.reads.length≤4398046511000
theorem knows_ok (s:SplitM) (b:Bool):r167 (s.t,(b,()))=some ((),((knowS s b).t,())):=rfl
theorem l15Know_ok (s:SplitM) (b:Bool):r235 (s.t,(b,()))=some (((knowS s b).t,()),()):=rfl
theorem splitRead_ok (s:SplitM) (a:Int) (h:SplitP s) (hr:Room s):r218 (s.t,(a,()))=some ((readSV s a,()),((readS s a).t,())):=by
 unfold Room at hr
 have hl:leN (s.reads.length+1) (E.most .i)=true:=leN_t (by simp only[E.most];omega)
 unfold r218 m218 readS readSV
 refine bind_step (implRegion_ok (a,())) ?_
 show (bif eqI (rgT a).1 2 then _ else bif eqI (rgT a).1 3 then _ else bif eqI (rgT a).1 4 then _ else bif eqI (rgT a).1 7 then _ else _)=_
 by_cases c2:(rgT a).1=2
 ·rw[eqI_t c2,if_pos c2,if_pos c2,cond_true]
  refine bind_step (read_ok s.pic.ppu h.pic.ppu (rgT a).2) ?_
  obtain ⟨e1,e2⟩:=readP_rows s.pic.ppu (rgT a).2
  generalize readP s.pic.ppu (rgT a).2=q at e1 e2⊢
  obtain ⟨T,c,sc,ad,pal,bl,tb,ds⟩:=q
  have e1:tb=s.pic.ppu.table:=e1
  have e2:ds=s.pic.ppu.dots:=e2
  subst e1 e2
  show (bif leN (s.reads.length+1) (E.most .i)then _ else none)=_
  rw[hl];rfl
 rw[eqI_f c2,if_neg c2,if_neg c2,cond_false]
 by_cases c3:(rgT a).1=3
 ·rw[eqI_t c3,if_pos c3,if_pos c3,cond_true]
  refine bind_step (implApuRead_ok s.snd.apu h.snd.apu (rgT a).2) ?_
  show (bif eqI (rgT a).2 2 then _ else _)=_
  by_cases a2:(rgT a).2=2
  ·rw[eqI_t a2,if_pos a2,cond_true]
   refine bind_step (knows_ok {s with snd:={s.snd with apu:=readA s.snd.apu (rgT a).2}} false) ?_
   show (bif leN (s.reads.length+1) (E.most .i)then _ else none)=_
   rw[hl];rfl
  ·rw[eqI_f a2,if_neg a2]
   show (bif leN (s.reads.length+1) (E.most .i)then _ else none)=_
   rw[hl];rfl
 rw[eqI_f c3,if_neg c3,if_neg c3,cond_false]
 by_cases c4:(rgT a).1=4
 ·rw[eqI_t c4,if_pos c4,if_pos c4,cond_true]
  refine bind_step (implPadRead_ok s.pad s.pads s.T h.pads h.t) ?_
  show (bif leN (s.reads.length+1) (E.most .i)then _ else none)=_
  rw[hl];rfl
 rw[eqI_f c4,if_neg c4,if_neg c4,cond_false]
 by_cases c7:(rgT a).1=7
 ·have hz:peekT s.img s.mem a=0:=by
   unfold peekT
   rw[if_neg (by omega),if_neg (by omega),if_neg (by omega)]
  rw[eqI_t c7,hz];rfl
 ·rw[eqI_f c7,cond_false]
  exact bind_step (implPeek1_ok s.img s.mem a h.mem) rfl
theorem l15Read_ok (s:SplitM) (a:Int) (h:SplitP s) (hr:Room s):r236 (s.t,(a,()))=some (((readS s a).t,(readSV s a,())),()):=by
 unfold Room at hr
 have hl:leN (s.reads.length+1) (E.most .i)=true:=leN_t (by simp only[E.most];omega)
 unfold r236 m236 readS readSV
 refine bind_step (specRegion_ok (a,())) ?_
 show (bif eqI (rgT a).1 2 then _ else bif eqI (rgT a).1 3 then _ else bif eqI (rgT a).1 4 then _ else _)=_
 by_cases c2:(rgT a).1=2
 ·rw[eqI_t c2,if_pos c2,if_pos c2,cond_true]
  refine bind_step (specPpuRead_ok s.pic.ppu h.pic.ppu (rgT a).2) ?_
  show (bif leN (s.reads.length+1) (E.most .i)then _ else none)=_
  rw[hl];rfl
 rw[eqI_f c2,if_neg c2,if_neg c2,cond_false]
 by_cases c3:(rgT a).1=3
 ·rw[eqI_t c3,if_pos c3,if_pos c3,cond_true]
  refine bind_step (specApuRead_ok s.snd.apu h.snd.apu (rgT a).2) ?_
  show (bif eqI (rgT a).2 2 then _ else _)=_
  by_cases a2:(rgT a).2=2
  ·rw[eqI_t a2,if_pos a2,cond_true]
   refine bind_step (l15Know_ok {s with snd:={s.snd with apu:=readA s.snd.apu (rgT a).2}} false) ?_
   show (bif leN (s.reads.length+1) (E.most .i)then _ else none)=_
   rw[hl];rfl
  ·rw[eqI_f a2,if_neg a2]
   show (bif leN (s.reads.length+1) (E.most .i)then _ else none)=_
   rw[hl];rfl
 rw[eqI_f c3,if_neg c3,if_neg c3,cond_false]
 by_cases c4:(rgT a).1=4
 ·rw[eqI_t c4,if_pos c4,if_pos c4,cond_true]
  refine bind_step (specPadRead_ok s.pad s.pads s.T h.pads h.t) ?_
  show (bif leN (s.reads.length+1) (E.most .i)then _ else none)=_
  rw[hl];rfl
 rw[eqI_f c4,if_neg c4,if_neg c4,cond_false]
 exact bind_step (specPeek1_ok s.img s.mem a h.mem) rfl
theorem lists_small {s:SplitM} (h:SplitP s):s.pic.list.length≤16∧s.snd.list.length≤16:=by
 have h1:=h.pic.ring.len
 have h2:=h.pic.ring.c1
 have h3:=h.snd.ring.len
 have h4:=h.snd.ring.c1
 omega
theorem splitWrite_ok (s:SplitM) (a v:Int) (h:SplitP s) (hv:0≤v∧v≤255):r219 (s.t,(a,(v,())))=some ((),((writeS s a v).t,())):=by
 obtain ⟨l1,l2⟩:=lists_small h
 have hl1:leN (s.pic.list.length+1) (E.most .t)=true:=leN_t (by simp only[E.most];omega)
 have hl2:leN (s.snd.list.length+1) (E.most .t)=true:=leN_t (by simp only[E.most];omega)
 have k:r225 (v,())=some ((v,()),()):=by
  rw[implByte_ok (v,())]
  show some ((v%256,()),())=_
  rw[show v%256=v by omega]
 unfold r219 m219 writeS
 refine bind_step (implRegion_ok (a,())) (bind_step k ?_)
 show (bif eqI (rgT a).1 2 then _ else bif eqI (rgT a).1 3 then _ else bif eqI (rgT a).1 4 then _ else bif eqI (rgT a).1 1 then _ else bif eqI (rgT a).1 5 then _ else bif eqI (rgT a).1 6 then _ else _)=_
 by_cases c2:(rgT a).1=2
 ·rw[eqI_t c2,if_pos c2]
  show (bif leN (s.pic.list.length+1) (E.most .t)then (bif eqI (rgT a).2 0 then _ else _)else none)=_
  rw[hl1]
  by_cases a0:(rgT a).2=0
  ·rw[eqI_t a0,if_pos a0];rfl
  ·rw[eqI_f a0,if_neg a0];rfl
 rw[eqI_f c2,if_neg c2,cond_false]
 by_cases c3:(rgT a).1=3
 ·rw[eqI_t c3,if_pos c3]
  show (bif leN (s.snd.list.length+1) (E.most .t)then (bif eqI (rgT a).2 3 then _ else bif eqI (rgT a).2 2 then (bif eqI (Int.tmod v 2) 0 then _ else _)else _)else none)=_
  rw[hl2,cond_true,tmod_nn hv.1]
  have kn:=knows_ok {s with snd:={s.snd with list:=s.snd.list++[(s.T,((rgT a).2,v))]}} false
  by_cases a3:(rgT a).2=3
  ·rw[eqI_t a3,if_pos (.inl a3),cond_true]
   exact bind_step kn rfl
  rw[eqI_f a3,cond_false]
  by_cases a2:(rgT a).2=2
  ·rw[eqI_t a2]
   by_cases v2:v%2=0
   ·rw[cond_true,eqI_t v2,if_pos (.inr ⟨a2,v2⟩),cond_true]
    exact bind_step kn rfl
   ·rw[eqI_f v2,if_neg (by omega)];rfl
  ·rw[eqI_f a2,if_neg (by omega)];rfl
 rw[eqI_f c3,if_neg c3,cond_false]
 by_cases c4:(rgT a).1=4
 ·rw[eqI_t c4,if_pos c4,cond_true]
  exact bind_step (implPadWrite_ok s.pad s.pads s.T v h.pads h.t) rfl
 rw[eqI_f c4,if_neg c4,cond_false]
 have kp:=implPoke_ok s.img s.mem a v h.mem
 by_cases c1:(rgT a).1=1
 ·rw[eqI_t c1,cond_true]
  exact bind_step kp rfl
 rw[eqI_f c1,cond_false]
 by_cases c5:(rgT a).1=5
 ·rw[eqI_t c5,cond_true]
  exact bind_step kp rfl
 rw[eqI_f c5,cond_false]
 by_cases c6:(rgT a).1=6
 ·rw[eqI_t c6,cond_true]
  exact bind_step kp rfl
 ·rw[eqI_f c6,cond_false]
  have e:pokeT s.img s.mem a v=s.mem:=by
   unfold pokeT
   rw[if_neg c1,if_neg (by omega)]
  rw[e]
theorem l15Write_ok (s:SplitM) (a v:Int) (h:SplitP s) (hv:0≤v∧v≤255):r237 (s.t,(a,(v,())))=some (((writeS s a v).t,()),()):=by
 obtain ⟨l1,l2⟩:=lists_small h
 have hl1:leN (s.pic.list.length+1) (E.most .t)=true:=leN_t (by simp only[E.most];omega)
 have hl2:leN (s.snd.list.length+1) (E.most .t)=true:=leN_t (by simp only[E.most];omega)
 unfold r237 m237 writeS
 refine bind_step (specRegion_ok (a,())) ?_
 show (bif eqI (rgT a).1 2 then _ else bif eqI (rgT a).1 3 then _ else bif eqI (rgT a).1 4 then _ else _)=_
 by_cases c2:(rgT a).1=2
 ·rw[eqI_t c2,if_pos c2]
  show (bif leN (s.pic.list.length+1) (E.most .t)then (bif eqI (rgT a).2 0 then _ else _)else none)=_
  rw[hl1]
  by_cases a0:(rgT a).2=0
  ·rw[eqI_t a0,if_pos a0];rfl
  ·rw[eqI_f a0,if_neg a0];rfl
 rw[eqI_f c2,if_neg c2,cond_false]
 by_cases c3:(rgT a).1=3
 ·rw[eqI_t c3,if_pos c3]
  show (bif leN (s.snd.list.length+1) (E.most .t)then (bif eqI (rgT a).2 3 then _ else bif eqI (rgT a).2 2 then (bif eqI (Int.tmod v 2) 0 then _ else _)else _)else none)=_
  rw[hl2,cond_true,tmod_nn hv.1]
  have kn:=l15Know_ok {s with snd:={s.snd with list:=s.snd.list++[(s.T,((rgT a).2,v))]}} false
  by_cases a3:(rgT a).2=3
  ·rw[eqI_t a3,if_pos (.inl a3),cond_true]
   exact bind_step kn rfl
  rw[eqI_f a3,cond_false]
  by_cases a2:(rgT a).2=2
  ·rw[eqI_t a2]
   by_cases v2:v%2=0
   ·rw[cond_true,eqI_t v2,if_pos (.inr ⟨a2,v2⟩),cond_true]
    exact bind_step kn rfl
   ·rw[eqI_f v2,if_neg (by omega)];rfl
  ·rw[eqI_f a2,if_neg (by omega)];rfl
 rw[eqI_f c3,if_neg c3,cond_false]
 by_cases c4:(rgT a).1=4
 ·rw[eqI_t c4,if_pos c4,cond_true]
  exact bind_step (specPadWrite_ok s.pad s.pads s.T v h.pads h.t) rfl
 rw[eqI_f c4,if_neg c4,cond_false]
 exact bind_step (specPoke_ok s.img s.mem a v h.mem) rfl
theorem interrupt_ok (s:SplitM) (v:Int) (h:SplitP s) (hv:65530≤v∧v≤65534):r168 (s.t,(v,()))=some ((),((interS s v).t,())):=by
 unfold r168 m168
 have e:wI (v+1)=v+1:=wI_id (by omega) (by omega)
 have k:=implPeek1_ok s.img s.mem (v+1) h.mem
 rw[←e]at k
 refine bind_step (implPeek1_ok s.img s.mem v h.mem) (bind_step k (bind_step (implJoin_ok (peekT s.img s.mem v,(peekT s.img s.mem (wI (v+1)),()))) (bind_step (enter_ok s.mem s.cpu (joinN (peekT s.img s.mem v) (peekT s.img s.mem (wI (v+1)))) h.mem.ram h.cpu) ?_)))
 rw[e];rfl
theorem readS_rows (s:SplitM) (a:Int):(readS s a).pic.ppu.table=s.pic.ppu.table∧(readS s a).pic.ppu.dots=s.pic.ppu.dots∧(readS s a).pic.list=s.pic.list∧(readS s a).pic.frames=s.pic.frames∧(readS s a).snd.list=s.snd.list∧(readS s a).snd.samples=s.snd.samples:=by
 obtain ⟨e1,e2⟩:=readP_rows s.pic.ppu (rgT a).2
 unfold readS
 repeat' split
 all_goals first|exact ⟨e1,e2,rfl,rfl,rfl,rfl⟩|exact ⟨rfl,rfl,rfl,rfl,rfl,rfl⟩
theorem writeS_rows (s:SplitM) (a v:Int):(writeS s a v).pic.ppu=s.pic.ppu∧(writeS s a v).pic.frames=s.pic.frames∧(writeS s a v).snd.samples=s.snd.samples∧(writeS s a v).snd.apu=s.snd.apu∧(writeS s a v).reads=s.reads:=by
 unfold writeS
 repeat' split
 all_goals exact ⟨rfl,rfl,rfl,rfl,rfl⟩
theorem op_step (s:SplitM) (h:ReadyP s) (hr:Room s):r170 (s.t,())=some ((opCycN (opS s),()),((opDo s).t,())):=by
 have hp:=h.p
 unfold r170 m170 opDo
 refine bind_step (fetch_ok s.img s.mem s.cpu.pc hp.mem hp.cpu.pc) (bind_step (implAccess_ok (opS s) (argS s) s.cpu hp.cpu (arg_b hp)) ?_)
 show (bif eqI (opAccN (opS s)) 1 then _ else bif eqI (opAccN (opS s)) 2 then _ else _)=_
 by_cases o1:opAccN (opS s)=1
 ·rw[eqI_t o1,if_pos o1,cond_true]
  refine bind_step (splitRead_ok s (adrS s) hp hr) ?_
  have hv:=readSV_b hp (adrS s)
  obtain ⟨⟨f1,f2,f3,f4,f5,f6⟩,f7,f8⟩:=readS_f s (adrS s)
  obtain ⟨g1,g2,g3,g4,g5,g6⟩:=readS_rows s (adrS s)
  generalize readSV s (adrS s)=v at hv⊢
  generalize readS s (adrS s)=s' at f1 f2 f3 f4 f5 f6 f7 f8 g1 g2 g3 g4 g5 g6⊢
  obtain ⟨img,pads,mem,cpu,pad,T,nmi,ctrl,kn,ka,st,rd,⟨⟨pT,pc,ps,pa,pp,pb,ptb,pds⟩,pcap,pl,pf⟩,⟨sa,scap,sl,ss⟩⟩:=s'
  have f1:img=s.img:=f1
  have f2:pads=s.pads:=f2
  have f7:cpu=s.cpu:=f7
  have f8:mem=s.mem:=f8
  have g1:ptb=s.pic.ppu.table:=g1
  have g2:pds=s.pic.ppu.dots:=g2
  have g3:pl=s.pic.list:=g3
  have g4:pf=s.pic.frames:=g4
  have g5:sl=s.snd.list:=g5
  have g6:ss=s.snd.samples:=g6
  subst f1 f2 f7 f8 g1 g2 g3 g4 g5 g6
  exact bind_step (exec_ok s.mem s.cpu (opS s) (argS s) v hp.mem.ram hp.cpu hv) (bind_step (implOpCycles_ok (opS s,())) rfl)
 rw[eqI_f o1,if_neg o1,cond_false]
 by_cases o2:opAccN (opS s)=2
 ·rw[eqI_t o2,if_pos o2,cond_true]
  have ev:accV (opS s) s.cpu.a=s.cpu.a%256:=by unfold accV;rw[if_pos o2]
  have kw:=splitWrite_ok s (adrS s) (s.cpu.a%256) hp (mod256 _)
  rw[←ev]at kw
  refine bind_step kw ?_
  rw[ev]
  have hq:=writeS_P hp (mod256 s.cpu.a) (h.room o2) (h.room' o2)
  obtain ⟨⟨f1,f2,f3,f4,f5,f6⟩,f7⟩:=writeS_f s (adrS s) (s.cpu.a%256)
  obtain ⟨g1,g2,g3,g4,g5⟩:=writeS_rows s (adrS s) (s.cpu.a%256)
  generalize writeS s (adrS s) (s.cpu.a%256)=s' at hq f1 f2 f3 f4 f5 f6 f7 g1 g2 g3 g4 g5⊢
  have h1:=hq.mem.ram
  have h2:=hq.cpu
  clear hq
  obtain ⟨img,pads,mem,cpu,pad,T,nmi,ctrl,kn,ka,st,rd,⟨pp,pcap,pl,pf⟩,⟨sa,scap,sl,ss⟩⟩:=s'
  have f1:img=s.img:=f1
  have f2:pads=s.pads:=f2
  have g1:pp=s.pic.ppu:=g1
  have g2:pf=s.pic.frames:=g2
  have g3:ss=s.snd.samples:=g3
  have g4:sa=s.snd.apu:=g4
  have g5:rd=s.reads:=g5
  subst f1 f2 g1 g2 g3 g4 g5
  exact bind_step (exec_ok mem cpu (opS s) (argS s) 0 h1 h2 (by decide)) (bind_step (implOpCycles_ok (opS s,())) rfl)
 ·rw[eqI_f o2,if_neg o2,cond_false]
  have ev:accV (opS s) s.cpu.a=0:=by unfold accV;rw[if_neg o2]
  have k:=exec_ok s.mem s.cpu (opS s) (argS s) 0 hp.mem.ram hp.cpu (by decide)
  rw[←ev]at k
  refine bind_step k (bind_step (implOpCycles_ok (opS s,())) ?_)
  rw[ev];rfl
structure SameRows (s s':SplitM):Prop where
 img:s'.img=s.img
 pads:s'.pads=s.pads
 table:s'.pic.ppu.table=s.pic.ppu.table
 dots:s'.pic.ppu.dots=s.pic.ppu.dots
 frames:s'.pic.frames=s.pic.frames
 samples:s'.snd.samples=s.snd.samples
theorem SameRows.rfl' (s:SplitM):SameRows s s:=⟨rfl,rfl,rfl,rfl,rfl,rfl⟩
theorem opDo_rows (s:SplitM):SameRows s (opDo s):=by
 unfold opDo
 split
 ·obtain ⟨⟨f1,f2,_⟩,_⟩:=readS_f s (adrS s)
  obtain ⟨g1,g2,g3,g4,g5,g6⟩:=readS_rows s (adrS s)
  exact ⟨f1,f2,g1,g2,g4,g6⟩
 split
 ·obtain ⟨⟨f1,f2,_⟩,_⟩:=writeS_f s (adrS s) (s.cpu.a%256)
  obtain ⟨g1,g2,g3,g4,g5⟩:=writeS_rows s (adrS s) (s.cpu.a%256)
  refine ⟨f1,f2,?_,?_,g2,g3⟩
  ·show (writeS s (adrS s) (s.cpu.a%256)).pic.ppu.table=_;rw[g1]
  ·show (writeS s (adrS s) (s.cpu.a%256)).pic.ppu.dots=_;rw[g1]
 ·exact ⟨rfl,rfl,rfl,rfl,rfl,rfl⟩
theorem learnS_rows (s:SplitM):SameRows s (learnS s):=by
 unfold learnS
 split<;>exact ⟨rfl,rfl,rfl,rfl,rfl,rfl⟩
theorem doneS_rows (s:SplitM):SameRows s (doneS s).1:=by
 unfold doneS
 split
 ·exact ⟨rfl,rfl,rfl,rfl,rfl,rfl⟩
 split
 ·exact ⟨rfl,rfl,rfl,rfl,rfl,rfl⟩
 ·exact opDo_rows s
theorem SameRows.trans {a b c:SplitM} (h:SameRows a b) (k:SameRows b c):SameRows a c:=⟨k.img.trans h.img,k.pads.trans h.pads,k.table.trans h.table,k.dots.trans h.dots,k.frames.trans h.frames,k.samples.trans h.samples⟩
theorem stepS_rows (s:SplitM):SameRows s (stepS s):=by
 have h:=(learnS_rows s).trans (doneS_rows (learnS s))
 exact ⟨h.img,h.pads,h.table,h.dots,h.frames,h.samples⟩
theorem beat_self (t:Int):beatN t t=false:=decide_eq_false (by omega)
theorem ask_learn (s:SplitM) (hn:s.nmi=false):askM (learnS s)=((learnS s).known&& !s.cpu.i):=by
 unfold learnS
 cases hm:mustM s with
 |true=>
  rw[if_pos rfl]
  unfold askM knowS
  rw[show beatN s.T s.T=false from beat_self _]
  rfl
 |false=>
  rw[if_neg (by simp)]
  unfold mustM at hm
  rw[hn]at hm
  unfold askM
  cases hi:s.cpu.i with
  |true=>simp
  |false=>
   rw[hi]at hm
   have hb:beatN s.knownAt s.T=false:=by simpa using hm
   rw[hb];rfl
theorem ready_of {s:SplitM} (h:SplitP s) (hw:waitM s=0) (hn:s.nmi=false) (ha:askM s=false):ReadyP (learnS s):=by
 have hL:=learnS_P h
 obtain ⟨e1,e2,e3,e4,e5,e6,e7,e8,e9,e10⟩:=learnS_same s
 have eop:opS (learnS s)=opS s:=by unfold opS;rw[e1,e2,e3]
 have earg:argS (learnS s)=argS s:=by unfold argS;rw[e1,e2,e3]
 have eadr:adrS (learnS s)=adrS s:=by unfold adrS;rw[eop,earg,e3]
 unfold waitM at hw
 rw[hn,if_neg (by simp)]at hw
 split at hw
 ·omega
 rw[if_neg (by rw[ha];simp)]at hw
 split at hw
 ·omega
 split at hw
 ·omega
 split at hw
 ·omega
 rename_i h3
 split at hw
 ·omega
 rename_i h4
 exact ⟨hL,fun a b=>by rw[eop]at a;rw[eadr]at b;rw[e4];rcases Int.lt_or_le (s.pic.list.length:Int) s.pic.cap with h5|h5;exact h5;exact absurd ⟨a,b,h5⟩ h3,
  fun a b=>by rw[eop]at a;rw[eadr]at b;rw[e5];rcases Int.lt_or_le (s.snd.list.length:Int) s.snd.cap with h5|h5;exact h5;exact absurd ⟨a,b,h5⟩ h4⟩
theorem wait_seven {s:SplitM} (hw:waitM s=0) (hq:s.nmi=true∨askM s=true):s.T+7≤20000:=by
 unfold waitM at hw
 cases hn:s.nmi with
 |true=>rw[hn,if_pos rfl]at hw;exact overN_zero hw
 |false=>
  rw[hn,if_neg (by simp)]at hw
  split at hw
  ·omega
  rcases hq with hq|hq
  ·rw[hn]at hq;cases hq
  ·rw[if_pos hq]at hw;exact overN_zero hw
theorem wait_op {s:SplitM} (hw:waitM s=0) (hn:s.nmi=false) (ha:askM s=false):s.T+opCycN (opS s)≤20000:=by
 unfold waitM at hw
 rw[hn,if_neg (by simp)]at hw
 split at hw
 ·omega
 rw[if_neg (by rw[ha];simp)]at hw
 split at hw
 ·omega
 split at hw
 ·omega
 split at hw
 ·omega
 split at hw
 ·omega
 exact overN_zero hw
theorem fin_ok (s:SplitM) (n:Int) (ht:0≤s.T) (hn:0≤n) (htn:s.T+n≤20000) (h0:0≤s.steps) (h1:s.steps≤20000):
  (bif ltI 127 s.ctrl then (r171 (s.T,(wI (s.T+n),()))).bind (fun r=>some (((true,()):Bool×Unit),(({s with T:=wI (s.T+n),nmi:=r.1.1,steps:=wI (s.steps+1)}:SplitM).t,())))
   else some ((true,()),(({s with T:=wI (s.T+n),nmi:=false,steps:=wI (s.steps+1)}:SplitM).t,())))=some ((true,()),((endS s.T (s,n)).t,())):=by
 rw[wI_id (x:=s.T+n) (by omega) (by omega),wI_id (x:=s.steps+1) (by omega) (by omega),implBlankIn_ok s.T (s.T+n) (by omega) (by omega)]
 unfold endS
 simp only
 cases ltI 127 s.ctrl<;>rfl
theorem step_none (s:SplitM) (h:SplitP s) (hw:waitM s≠0):r105 (s.t,())=some ((false,()),(s.t,())):=by
 unfold r105 m105
 refine bind_step (wait_ok s h) ?_
 show (bif neI (waitM s) 0 then _ else _)=_
 rw[neI_t hw];rfl
theorem step_some (s:SplitM) (h:SplitP s) (hr:Room s) (hw:waitM s=0):r105 (s.t,())=some ((true,()),((stepS s).t,())):=by
 have ht:=h.t
 have hst:=h.steps
 unfold r105 m105
 refine bind_step (wait_ok s h) ?_
 show (bif neI (waitM s) 0 then _ else _)=_
 rw[neI_f hw,cond_false]
 refine bind_step (mustAsk_ok s h) ?_
 unfold stepS
 cases hm:mustM s with
 |true=>
  have hl:learnS s=knowS s s.snd.apu.irq:=by unfold learnS;rw[hm,if_pos rfl]
  have hn:s.nmi=false:=by
   unfold mustM at hm
   cases hn:s.nmi with
   |true=>rw[hn]at hm;cases hm
   |false=>rfl
  have hL:SplitP (knowS s s.snd.apu.irq):=hl▸learnS_P h
  rw[hl,cond_true]
  refine bind_step (knows_ok s s.snd.apu.irq) ?_
  show (bif s.nmi then _ else _)=_
  rw[hn,cond_false]
  refine bind_step (isAsked_ok (knowS s s.snd.apu.irq) hL) ?_
  have ea:=ask_learn s hn
  rw[hl]at ea
  unfold doneS
  rw[show (knowS s s.snd.apu.irq).nmi=false from hn,if_neg (by simp),show (knowS s s.snd.apu.irq).cpu.i=s.cpu.i from rfl,←ea]
  have ek:askM s=askM (knowS s s.snd.apu.irq):=by rw[ea,←hl];exact (learn_known s hn).symm
  cases ha:askM (knowS s s.snd.apu.irq)with
  |true=>
   rw[if_pos rfl]
   rw[cond_true]
   refine bind_step (interrupt_ok (knowS s s.snd.apu.irq) 65534 hL (by decide)) ?_
   exact fin_ok (interS (knowS s s.snd.apu.irq) 65534) 7 ht.1 (by decide) (show s.T+7≤20000 from wait_seven hw (.inr (ek.trans ha))) hst.1 (show s.steps≤20000 by omega)
  |false=>
   rw[if_neg (by simp),cond_false]
   have hq:=ready_of h hw hn (ek.trans ha)
   have hp:=(opDo_P hq).2
   have hrow:=opDo_rows (learnS s)
   rw[hl]at hq hp hrow
   refine bind_step (op_step (knowS s s.snd.apu.irq) hq hr) ?_
   have k1:s.T+opCycN (opS (knowS s s.snd.apu.irq))≤20000:=wait_op hw hn (ek.trans ha)
   have k2:=opCycN_b (opS (knowS s s.snd.apu.irq))
   generalize opCycN (opS (knowS s s.snd.apu.irq))=n at k1 k2⊢
   obtain ⟨f1,f2,f3,f4,f5,f6⟩:=hp
   obtain ⟨g1,g2,g3,g4,g5,g6⟩:=hrow
   generalize opDo (knowS s s.snd.apu.irq)=s' at f1 f2 f3 f4 f5 f6 g1 g2 g3 g4 g5 g6⊢
   obtain ⟨img,pads,mem,cpu,pad,T,nmi,ctrl,kn,ka,st,rd,⟨⟨pT,pc,ps,pa,pp,pb,ptb,pds⟩,pcap,pl,pf⟩,⟨sa,scap,sl,ss⟩⟩:=s'
   have g1:img=s.img:=g1
   have g2:pads=s.pads:=g2
   have g3:ptb=s.pic.ppu.table:=g3
   have g4:pds=s.pic.ppu.dots:=g4
   have g5:pf=s.pic.frames:=g5
   have g6:ss=s.snd.samples:=g6
   have f3:T=s.T:=f3
   have f5:st=s.steps:=f5
   subst g1 g2 g3 g4 g5 g6 f3 f5
   exact fin_ok ⟨s.img,s.pads,mem,cpu,pad,s.T,nmi,ctrl,kn,ka,s.steps,rd,⟨⟨pT,pc,ps,pa,pp,pb,s.pic.ppu.table,s.pic.ppu.dots⟩,pcap,pl,s.pic.frames⟩,⟨sa,scap,sl,s.snd.samples⟩⟩ n ht.1 (by omega) k1 hst.1 (show s.steps≤20000 by omega)
 |false=>
  have hl:learnS s=s:=by unfold learnS;rw[hm,if_neg (by simp)]
  rw[hl,cond_false]
  show (bif s.nmi then _ else _)=_
  unfold doneS
  cases hn:s.nmi with
  |true=>
   rw[if_pos rfl,cond_true]
   have h2:SplitP {s with nmi:=false}:=⟨h.mem,h.pads,h.cpu,h.pic,h.snd,h.pad,h.ctrl,h.t,h.known,h.steps,h.pt,h.st,h.pl,h.sl⟩
   refine bind_step (interrupt_ok {s with nmi:=false} 65530 h2 (by decide)) ?_
   exact fin_ok (interS {s with nmi:=false} 65530) 7 ht.1 (by decide) (show s.T+7≤20000 from wait_seven hw (.inl hn)) hst.1 (show s.steps≤20000 by omega)
  |false=>
   rw[if_neg (by simp),cond_false]
   refine bind_step (isAsked_ok s h) ?_
   have ea:=ask_learn s hn
   rw[hl]at ea
   rw[←ea]
   cases ha:askM s with
   |true=>
    rw[if_pos rfl]
    rw[cond_true]
    refine bind_step (interrupt_ok s 65534 h (by decide)) ?_
    exact fin_ok (interS s 65534) 7 ht.1 (by decide) (show s.T+7≤20000 from wait_seven hw (.inr ha)) hst.1 (show s.steps≤20000 by omega)
   |false=>
    rw[if_neg (by simp),cond_false]
    have hq:=ready_of h hw hn ha
    have hp:=(opDo_P hq).2
    have hrow:=opDo_rows (learnS s)
    rw[hl]at hq hp hrow
    refine bind_step (op_step s hq hr) ?_
    have k1:s.T+opCycN (opS s)≤20000:=wait_op hw hn ha
    have k2:=opCycN_b (opS s)
    generalize opCycN (opS s)=n at k1 k2⊢
    obtain ⟨f1,f2,f3,f4,f5,f6⟩:=hp
    obtain ⟨g1,g2,g3,g4,g5,g6⟩:=hrow
    generalize opDo s=s' at f1 f2 f3 f4 f5 f6 g1 g2 g3 g4 g5 g6⊢
    obtain ⟨img,pads,mem,cpu,pad,T,nmi,ctrl,kn,ka,st,rd,⟨⟨pT,pc,ps,pa,pp,pb,ptb,pds⟩,pcap,pl,pf⟩,⟨sa,scap,sl,ss⟩⟩:=s'
    have g1:img=s.img:=g1
    have g2:pads=s.pads:=g2
    have g3:ptb=s.pic.ppu.table:=g3
    have g4:pds=s.pic.ppu.dots:=g4
    have g5:pf=s.pic.frames:=g5
    have g6:ss=s.snd.samples:=g6
    have f3:T=s.T:=f3
    have f5:st=s.steps:=f5
    subst g1 g2 g3 g4 g5 g6 f3 f5
    exact fin_ok ⟨s.img,s.pads,mem,cpu,pad,s.T,nmi,ctrl,kn,ka,s.steps,rd,⟨⟨pT,pc,ps,pa,pp,pb,s.pic.ppu.table,s.pic.ppu.dots⟩,pcap,pl,s.pic.frames⟩,⟨sa,scap,sl,s.snd.samples⟩⟩ n ht.1 (by omega) k1 hst.1 (show s.steps≤20000 by omega)
theorem specOpTail (s:SplitM) (h:ReadyP s) (hr:Room s):((r230 ((s.img,()),(s.mem.t,(s.cpu.pc,())))).bind fun r0=>(r231 (r0.1.1,(s.cpu.t,()))).bind fun r1=>
  bif eqI r1.1.1 1 then (r236 (s.t,(r1.1.2.1,()))).bind (fun r2=>(r238 ((r2.1.1.2.2.1,(r2.1.1.2.2.2.1,())),((r2.1.1.2.2.2.2.1,(r2.1.1.2.2.2.2.2.1,(r2.1.1.2.2.2.2.2.2.1,(r2.1.1.2.2.2.2.2.2.2.1,(r2.1.1.2.2.2.2.2.2.2.2.1,(r2.1.1.2.2.2.2.2.2.2.2.2.1,(r2.1.1.2.2.2.2.2.2.2.2.2.2.1,(r2.1.1.2.2.2.2.2.2.2.2.2.2.2.1,())))))))),(r0.1.1,(r2.1.2.1,()))))).bind fun r3=>
    (r233 (r0.1.1.1,())).bind fun r4=>some ((((r2.1.1.1,(r2.1.1.2.1,(r3.1.1.1,(r3.1.1.2.1,(r3.1.2.1.1,(r3.1.2.1.2.1,(r3.1.2.1.2.2.1,(r3.1.2.1.2.2.2.1,(r3.1.2.1.2.2.2.2.1,(r3.1.2.1.2.2.2.2.2.1,(r3.1.2.1.2.2.2.2.2.2.1,(r3.1.2.1.2.2.2.2.2.2.2.1,r2.1.1.2.2.2.2.2.2.2.2.2.2.2.2)))))))))))),r4.1),())))
  else bif eqI r1.1.1 2 then (r237 (s.t,r1.1.2)).bind (fun r2=>(r238 ((r2.1.1.2.2.1,(r2.1.1.2.2.2.1,())),((r2.1.1.2.2.2.2.1,(r2.1.1.2.2.2.2.2.1,(r2.1.1.2.2.2.2.2.2.1,(r2.1.1.2.2.2.2.2.2.2.1,(r2.1.1.2.2.2.2.2.2.2.2.1,(r2.1.1.2.2.2.2.2.2.2.2.2.1,(r2.1.1.2.2.2.2.2.2.2.2.2.2.1,(r2.1.1.2.2.2.2.2.2.2.2.2.2.2.1,())))))))),(r0.1.1,((0:Int),()))))).bind fun r3=>
    (r233 (r0.1.1.1,())).bind fun r4=>some ((((r2.1.1.1,(r2.1.1.2.1,(r3.1.1.1,(r3.1.1.2.1,(r3.1.2.1.1,(r3.1.2.1.2.1,(r3.1.2.1.2.2.1,(r3.1.2.1.2.2.2.1,(r3.1.2.1.2.2.2.2.1,(r3.1.2.1.2.2.2.2.2.1,(r3.1.2.1.2.2.2.2.2.2.1,(r3.1.2.1.2.2.2.2.2.2.2.1,r2.1.1.2.2.2.2.2.2.2.2.2.2.2.2)))))))))))),r4.1),())))
  else (r238 (s.mem.t,(s.cpu.t,(r0.1.1,((0:Int),()))))).bind fun r3=>
    (r233 (r0.1.1.1,())).bind fun r4=>some ((((s.img,(s.pads,(r3.1.1.1,(r3.1.1.2.1,(r3.1.2.1.1,(r3.1.2.1.2.1,(r3.1.2.1.2.2.1,(r3.1.2.1.2.2.2.1,(r3.1.2.1.2.2.2.2.1,(r3.1.2.1.2.2.2.2.2.1,(r3.1.2.1.2.2.2.2.2.2.1,(r3.1.2.1.2.2.2.2.2.2.2.1,s.t.2.2.2.2.2.2.2.2.2.2.2.2)))))))))))),r4.1),())))=some (((opDo s).t,(opCycN (opS s),())),()):=by
 have hp:=h.p
 unfold opDo
 refine bind_step (specFetch_ok s.img s.mem s.cpu.pc hp.mem hp.cpu.pc) (bind_step (specAccess_ok (opS s) (argS s) s.cpu hp.cpu (arg_b hp)) ?_)
 show (bif eqI (opAccN (opS s)) 1 then _ else bif eqI (opAccN (opS s)) 2 then _ else _)=_
 by_cases o1:opAccN (opS s)=1
 ·rw[eqI_t o1,if_pos o1,cond_true]
  refine bind_step (l15Read_ok s (adrS s) hp hr) ?_
  have hq:=readS_P hp (adrS s)
  exact bind_step (specExec_ok (readS s (adrS s)).mem (readS s (adrS s)).cpu (opS s) (argS s) (readSV s (adrS s)) hq.mem.ram hq.cpu) (bind_step (specOpCycles_ok (opS s,())) rfl)
 rw[eqI_f o1,if_neg o1,cond_false]
 by_cases o2:opAccN (opS s)=2
 ·rw[eqI_t o2,if_pos o2,cond_true]
  have ev:accV (opS s) s.cpu.a=s.cpu.a%256:=by unfold accV;rw[if_pos o2]
  have kw:=l15Write_ok s (adrS s) (s.cpu.a%256) hp (mod256 _)
  rw[←ev]at kw
  refine bind_step kw ?_
  rw[ev]
  have hq:=writeS_P hp (mod256 s.cpu.a) (h.room o2) (h.room' o2)
  exact bind_step (specExec_ok (writeS s (adrS s) (s.cpu.a%256)).mem (writeS s (adrS s) (s.cpu.a%256)).cpu (opS s) (argS s) 0 hq.mem.ram hq.cpu) (bind_step (specOpCycles_ok (opS s,())) rfl)
 ·rw[eqI_f o2,if_neg o2,cond_false]
  exact bind_step (specExec_ok s.mem s.cpu (opS s) (argS s) 0 hp.mem.ram hp.cpu) (bind_step (specOpCycles_ok (opS s,())) rfl)
theorem l15Do_ok (s:SplitM) (h:SplitP s) (hr:Room s) (hw:waitM s=0):r195 (s.t,())=some (((doneS (learnS s)).1.t,((doneS (learnS s)).2,())),()):=by
 unfold r195 m195
 show (bif s.nmi then _ else bif !s.cpu.i then _ else _)=_
 cases hn:s.nmi with
 |true=>
  have hl:learnS s=s:=by unfold learnS mustM;rw[hn];rfl
  rw[hl,cond_true]
  unfold doneS
  rw[hn,if_pos rfl]
  exact bind_step (specEnter_ok s.img s.mem s.cpu 65530 h.mem h.cpu (by decide)) rfl
 |false=>
  rw[cond_false]
  have ea:=ask_learn s hn
  cases hi:s.cpu.i with
  |true=>
   have hm:mustM s=false:=by unfold mustM;rw[hi];simp
   have hl:learnS s=s:=by unfold learnS;rw[hm,if_neg (by simp)]
   rw[hl]at ea⊢
   unfold doneS
   rw[hn,if_neg (by simp),hi,show (s.known&& !true)=false by simp,if_neg (by simp),show (!true)=false from rfl,cond_false]
   have ha:askM s=false:=by rw[ea,hi];simp
   have hq:=ready_of h hw hn ha
   rw[hl]at hq
   exact specOpTail s hq hr
  |false=>
   rw[show (!false)=true from rfl,cond_true]
   refine bind_step (specBeatIn_ok _ _ (known_b h) h.t) ?_
   show (bif beatN s.knownAt s.T then _ else _)=_
   cases hb:beatN s.knownAt s.T with
   |true=>
    have hm:mustM s=true:=by unfold mustM;rw[hn,hi,hb];rfl
    have hl:learnS s=knowS s s.snd.apu.irq:=by unfold learnS;rw[hm,if_pos rfl]
    have hL:SplitP (knowS s s.snd.apu.irq):=hl▸learnS_P h
    rw[hl]at ea⊢
    rw[cond_true]
    refine bind_step (l15Know_ok s s.snd.apu.irq) ?_
    show (bif s.snd.apu.irq then _ else _)=_
    unfold doneS
    rw[show (knowS s s.snd.apu.irq).nmi=false from hn,if_neg (by simp),show (knowS s s.snd.apu.irq).cpu.i=false from hi,show ((knowS s s.snd.apu.irq).known&& !false)=s.snd.apu.irq by simp[knowS]]
    cases hk:s.snd.apu.irq with
    |true=>
     rw[cond_true,if_pos rfl]
     exact bind_step (specEnter_ok s.img s.mem s.cpu 65534 h.mem h.cpu (by decide)) rfl
    |false=>
     rw[cond_false,if_neg (by simp)]
     rw[hk]at hl hL ea
     have ha:askM s=false:=by unfold askM;rw[hb,if_pos rfl,hk];rfl
     have hq:=ready_of h hw hn ha
     rw[hl]at hq
     exact specOpTail (knowS s false) hq hr
   |false=>
    have hm:mustM s=false:=by unfold mustM;rw[hn,hi,hb];rfl
    have hl:learnS s=s:=by unfold learnS;rw[hm,if_neg (by simp)]
    rw[hl]at ea⊢
    rw[cond_false]
    show (bif s.known then _ else _)=_
    unfold doneS
    rw[hn,if_neg (by simp),hi,show (s.known&& !false)=s.known by simp]
    cases hk:s.known with
    |true=>
     rw[cond_true,if_pos rfl]
     exact bind_step (specEnter_ok s.img s.mem s.cpu 65534 h.mem h.cpu (by decide)) rfl
    |false=>
     rw[cond_false,if_neg (by simp)]
     have ha:askM s=false:=by rw[ea,hk];rfl
     have hq:=ready_of h hw hn ha
     rw[hl]at hq
     exact specOpTail s hq hr
theorem l15Copy_ok (s:SplitM) (h:SplitP s) (hr:Room s):r62 (s.t,())=some ((s.t,()),()):=by
 unfold Room at hr
 have h4:=h.mem.ram.len
 have h5:=h.pads.len
 have l1:leN (0+s.pads.length) (E.most .i)=true:=leN_t (by simp only[E.most];omega)
 have l2:leN (0+s.reads.length) (E.most .i)=true:=leN_t (by simp only[E.most];omega)
 unfold r62 m62
 refine bind_step (l12Image_ok s.img h.mem.img.small) ?_
 show (bif leN (0+s.pads.length) (E.most .i)then _ else none)=_
 rw[l1,cond_true]
 refine bind_step (l6Copy_t s.mem h4) ?_
 show (bif leN (0+s.reads.length) (E.most .i)then _ else none)=_
 rw[l2,cond_true]
 exact bind_step (l14Picture_ok s.pic h.pic) (bind_step (l14Sound_ok s.snd h.snd) rfl)
theorem copySplit_t (s:SplitM) (h:SplitP s) (hr:Room s):r58 (s.t,())=some ((s.t,()),()):=copySplit_ok s.t (h.s (by unfold Room at hr;omega))
theorem specSplitOk_t (s:SplitM) (h:SplitP s) (hr:Room s):r61 (s.t,())=some ((true,()),()):=by
 rw[specSplitOk_ok s.t (h.s (by unfold Room at hr;omega)),splitOk_iff.2 h]
def stepGet (s:SplitM):SplitM:=if waitM s=0 then stepS s else s
def stepIs (s:SplitM):Bool:=decide (waitM s=0)
theorem specCpuStep_ok (s:SplitM) (h:SplitP s) (hr:Room s):r125 (s.t,())=some (((stepGet s).t,(stepIs s,())),()):=by
 have ht:=h.t
 have hst:=h.steps
 unfold r125 m125 stepGet stepIs
 refine bind_step (specSplitOk_t s h hr) (bind_step (l15Wait_ok s h) ?_)
 show (bif neI (waitM s) 0 then _ else _)=_
 by_cases hw:waitM s=0
 ·rw[neI_f hw,cond_false,if_pos hw,decide_eq_true hw]
  refine bind_step (l15Copy_ok s h hr) (bind_step (l15Do_ok s h hr hw) ?_)
  unfold stepS endS
  obtain ⟨p,hstep,_,h5,h6,_⟩:=stepS_P h hw
  have p:=p.t
  have e1:(stepS s).T=s.T+(doneS (learnS s)).2:=rfl
  rw[e1]at p h5 h6
  have w1:wI (s.T+(doneS (learnS s)).2)=s.T+(doneS (learnS s)).2:=wI_id (by omega) (by omega)
  have w2:wI (s.steps+1)=s.steps+1:=wI_id (by omega) (by omega)
  have e2:(doneS (learnS s)).1.steps=s.steps:=by
   have e3:(doneS (learnS s)).1.steps+1=s.steps+1:=hstep
   omega
  rw[e2]
  have kb:=specBlankIn_ok s.T (s.T+(doneS (learnS s)).2) ht p
  rw[←w1]at kb
  generalize doneS (learnS s)=d at w1 kb e2⊢
  show (bif ltI 127 d.1.ctrl then (r196 (s.T,(wI (s.T+d.2),()))).bind (fun r=>some (((({d.1 with T:=wI (s.T+d.2),nmi:=r.1.1,steps:=wI (s.steps+1)}:SplitM).t,(true,())),()):(Tup splitL×Bool×Unit)×Unit))
   else some ((({d.1 with T:=wI (s.T+d.2),nmi:=false,steps:=wI (s.steps+1)}:SplitM).t,(true,())),()))=_
  rw[kb,w1,w2]
  cases ltI 127 d.1.ctrl<;>rfl
 ·rw[neI_t hw,cond_true,if_neg hw,decide_eq_false hw]
  exact bind_step (l15Copy_ok s h hr) rfl
theorem step_ok (s:SplitM) (h:SplitP s) (hr:Room s):r105 (s.t,())=some ((stepIs s,()),((stepGet s).t,())):=by
 unfold stepGet stepIs
 by_cases hw:waitM s=0
 ·rw[if_pos hw,decide_eq_true hw];exact step_some s h hr hw
 ·rw[if_neg hw,decide_eq_false hw];exact step_none s h hw
theorem stepGet_rows (s:SplitM):SameRows s (stepGet s):=by
 unfold stepGet
 split
 ·exact stepS_rows s
 ·exact .rfl' s
def pickGet (s:SplitM) (who:Int):SplitM:=(pickM s who).getD s
def pickIs (s:SplitM) (who:Int):Bool:=(pickM s who).isSome
theorem pick_0 (s:SplitM):pickGet s 0=stepGet s∧pickIs s 0=stepIs s:=by
 unfold pickGet pickIs pickM stepGet stepIs
 rw[if_pos rfl]
 by_cases hw:waitM s=0
 ·rw[if_pos hw,if_pos hw,decide_eq_true hw];exact ⟨rfl,rfl⟩
 ·rw[if_neg hw,if_neg hw,decide_eq_false hw];exact ⟨rfl,rfl⟩
theorem pick_1 (s:SplitM):pickGet s 1={s with pic:=(stepPic s.pic s.T).getD s.pic}∧pickIs s 1=(stepPic s.pic s.T).isSome:=by
 unfold pickGet pickIs pickM
 rw[if_neg (by decide),if_pos rfl]
 cases stepPic s.pic s.T<;>exact ⟨rfl,rfl⟩
theorem pick_2 (s:SplitM):pickGet s 2={s with snd:=(stepSnd s.snd s.T).getD s.snd}∧pickIs s 2=(stepSnd s.snd s.T).isSome:=by
 unfold pickGet pickIs pickM
 rw[if_neg (by decide),if_neg (by decide),if_pos rfl]
 cases stepSnd s.snd s.T<;>exact ⟨rfl,rfl⟩
theorem pick_x (s:SplitM) {who:Int} (h0:who≠0) (h1:who≠1) (h2:who≠2):pickGet s who=s∧pickIs s who=false:=by
 unfold pickGet pickIs pickM
 rw[if_neg h0,if_neg h1,if_neg h2]
 exact ⟨rfl,rfl⟩
theorem pickGet_P {s:SplitM} (h:SplitP s) (who:Int):SplitP (pickGet s who)∧(pickGet s who).reads.length≤s.reads.length+1:=by
 unfold pickGet
 cases hp:pickM s who with
 |none=>exact ⟨h,Nat.le_succ _⟩
 |some v=>exact pickM_P h hp
theorem pick_ok (s:SplitM) (who:Int) (h:SplitP s) (hr:Room s):r59 (s.t,(who,()))=some ((pickIs s who,()),((pickGet s who).t,())):=by
 unfold r59 m59
 show (bif eqI who 0 then _ else bif eqI who 1 then _ else bif eqI who 2 then _ else _)=_
 by_cases c0:who=0
 ·subst c0
  rw[(pick_0 s).1,(pick_0 s).2,eqI_t rfl,cond_true]
  refine bind_step (step_ok s h hr) ?_
  obtain ⟨g1,g2,g3,g4,g5,g6⟩:=stepGet_rows s
  generalize stepGet s=s' at g1 g2 g3 g4 g5 g6⊢
  obtain ⟨img,pads,mem,cpu,pad,T,nmi,ctrl,kn,ka,st,rd,⟨⟨pT,pc,ps,pa,pp,pb,ptb,pds⟩,pcap,pl,pf⟩,⟨sa,scap,sl,ss⟩⟩:=s'
  have g1:img=s.img:=g1
  have g2:pads=s.pads:=g2
  have g3:ptb=s.pic.ppu.table:=g3
  have g4:pds=s.pic.ppu.dots:=g4
  have g5:pf=s.pic.frames:=g5
  have g6:ss=s.snd.samples:=g6
  subst g1 g2 g3 g4 g5 g6
  rfl
 rw[eqI_f c0,cond_false]
 by_cases c1:who=1
 ·subst c1
  rw[(pick_1 s).1,(pick_1 s).2,eqI_t rfl,cond_true]
  exact bind_step (picStep_ok s.pic s.T h.pic) rfl
 rw[eqI_f c1,cond_false]
 by_cases c2:who=2
 ·subst c2
  rw[(pick_2 s).1,(pick_2 s).2,eqI_t rfl,cond_true]
  exact bind_step (sndStep_ok s.snd s.T h.snd) rfl
 ·rw[eqI_f c2,cond_false,(pick_x s c0 c1 c2).1,(pick_x s c0 c1 c2).2]
def split0:Tup splitL:=([],([],([],(0,(0,(0,(0,(0,(false,(false,(false,(false,(false,(0,(0,(false,(0,(false,(0,(0,([],(0,(0,(0,(0,(0,(false,([],([],(0,([],([],(0,(0,(0,(0,(0,(false,(false,(0,([],([],()))))))))))))))))))))))))))))))))))))))))))
theorem sizes_of {s:SplitM} (h:SplitP s) (hr:Room s):splitOkS s.t:=h.s (by unfold Room at hr;omega)
theorem specPick_ok (s:SplitM) (who:Int) (h:SplitP s) (hr:Room s):r51 (s.t,(who,()))=some (((pickGet s who).t,(pickIs s who,())),()):=by
 unfold r51 m51
 refine bind_step (specSplitOk_t s h hr) (bind_step (l15Copy_ok s h hr) ?_)
 show (bif eqI who 0 then _ else bif eqI who 1 then _ else bif eqI who 2 then _ else _)=_
 by_cases c0:who=0
 ·subst c0
  rw[(pick_0 s).1,(pick_0 s).2,eqI_t rfl,cond_true]
  exact bind_step (specCpuStep_ok s h hr) rfl
 rw[eqI_f c0,cond_false]
 by_cases c1:who=1
 ·subst c1
  rw[(pick_1 s).1,(pick_1 s).2,eqI_t rfl,cond_true]
  exact bind_step (l14Pic_ok s.pic s.T h.pic) rfl
 rw[eqI_f c1,cond_false]
 by_cases c2:who=2
 ·subst c2
  rw[(pick_2 s).1,(pick_2 s).2,eqI_t rfl,cond_true]
  exact bind_step (l14Snd_ok s.snd s.T h.snd) rfl
 ·rw[eqI_f c2,cond_false,(pick_x s c0 c1 c2).1,(pick_x s c0 c1 c2).2]
theorem level_ok (s:SplitM) (h:SplitP s):r78 (s.t,())=some ((),((levelM s).t,())):=by
 unfold r78 m78
 exact bind_step (picCatch_ok s.pic s.T h.pic) (bind_step (sndCatch_ok s.snd s.T h.snd) rfl)
def levelA (s:SplitM):SplitM:=if splitOk s.t then levelM s else s
theorem implLevel_a (s:SplitM) (hs:splitOkS s.t) (hr:Room s):r23 (s.t,())=some (((levelA s).t,()),()):=by
 unfold r23 m23 levelA
 refine bind_step (copySplit_ok s.t hs) (bind_step (implSplitOk_ok s.t hs) ?_)
 show (bif splitOk s.t then _ else _)=_
 cases ho:splitOk s.t with
 |true=>exact bind_step (level_ok s (splitOk_iff.1 ho)) rfl
 |false=>rfl
theorem levelA_P {s:SplitM} (h:SplitP s):levelA s=levelM s:=by
 unfold levelA
 rw[splitOk_iff.2 h,if_pos rfl]
def playM:List Int→SplitM→SplitM×Int
 | [],s=>(s,0)
 |w::r,s=>((playM r (pickGet s w)).1,flagN (pickIs s w)+(playM r (pickGet s w)).2)
theorem playM_P: ∀{l:List Int} {s:SplitM},SplitP s→SplitP (playM l s).1∧(playM l s).1.reads.length≤s.reads.length+l.length∧0≤(playM l s).2∧(playM l s).2≤(l.length:Int)
 | [],s,h=>⟨h,Nat.le_refl _,Int.le_refl 0,Int.le_refl 0⟩
 |w::r,s,h=>by
  obtain ⟨a,b⟩:=pickGet_P h w
  obtain ⟨c,d,e,f⟩:=playM_P (l:=r) a
  have g:=flagN_range (pickIs s w)
  refine ⟨c,?_,?_,?_⟩
  ·show (playM r (pickGet s w)).1.reads.length≤s.reads.length+(r.length+1)
   omega
  ·show 0≤flagN (pickIs s w)+(playM r (pickGet s w)).2
   omega
  ·show flagN (pickIs s w)+(playM r (pickGet s w)).2≤((r.length+1:Nat):Int)
   omega
theorem pickGet_img (s:SplitM) (who:Int):(pickGet s who).img=s.img∧(pickGet s who).pads=s.pads:=by
 by_cases c0:who=0
 ·subst c0;rw[(pick_0 s).1];exact ⟨(stepGet_rows s).img,(stepGet_rows s).pads⟩
 by_cases c1:who=1
 ·subst c1;rw[(pick_1 s).1];exact ⟨rfl,rfl⟩
 by_cases c2:who=2
 ·subst c2;rw[(pick_2 s).1];exact ⟨rfl,rfl⟩
 ·rw[(pick_x s c0 c1 c2).1];exact ⟨rfl,rfl⟩
theorem playM_img: ∀(l:List Int) (s:SplitM),(playM l s).1.img=s.img∧(playM l s).1.pads=s.pads
 | [],s=>⟨rfl,rfl⟩
 |w::r,s=>by
  obtain ⟨a,b⟩:=pickGet_img s w
  obtain ⟨c,d⟩:=playM_img r (pickGet s w)
  exact ⟨c.trans a,d.trans b⟩
theorem implPlay_loop (l:List Int) (hl:l.length≤3000): ∀(k i:Nat) (c:Int) (s:SplitM),SplitP s→s.reads.length+(l.length-i)≤4398046511000→i≤l.length→l.length-i<k→0≤c→c≤(i:Int)→
  n14_0 r59 r16 r58 r60 k (l,((l.length:Int),())) (s.t,()) (c,((i:Int),()))=some (Sum.inl (c+(playM (l.drop i) s).2,((l.length:Int),())),((playM (l.drop i) s).1.t,()))
 |0,_,_,_,_,_,_,h,_,_=>absurd h (by omega)
 |k+1,i,c,s,h,hr,hi,hk,c0,c1=>by
  show (bif ltI (i:Int) (l.length:Int)then (bif leI 0 (i:Int)then (bif ltI (i:Int) (l.length:Int)then (r59 (s.t,(rdE .i l (i:Int),()))).bind _ else none)else none)else some (Sum.inl (c,((i:Int),())),(s.t,())))=_
  by_cases hlt:i<l.length
  ·rw[ltI_t (by omega),leI_t (by omega),rdE_nat .i l i hlt,drop_cons' hlt]
   have hroom:Room s:=by unfold Room;omega
   refine bind_step (pick_ok s l[i] h hroom) (bind_step (flag_ok (pickIs s l[i],())) ?_)
   obtain ⟨a,b⟩:=pickGet_P h l[i]
   have f:=flagN_range (pickIs s l[i])
   have ih:=implPlay_loop l hl k (i+1) (c+flagN (pickIs s l[i])) (pickGet s l[i]) a (by omega) (by omega) (by omega) (by omega) (by omega)
   have w1:wI (c+flagN (pickIs s l[i]))=c+flagN (pickIs s l[i]):=wI_id (by omega) (by omega)
   have w2:wI ((i:Int)+1)=((i+1:Nat):Int):=wI_succ (by omega)
   rw[←w1,←w2]at ih
   obtain ⟨g1,g2⟩:=pickGet_img s l[i]
   have e:playM (l[i]::l.drop (i+1)) s=((playM (l.drop (i+1)) (pickGet s l[i])).1,flagN (pickIs s l[i])+(playM (l.drop (i+1)) (pickGet s l[i])).2):=rfl
   rw[e,←Int.add_assoc]
   generalize pickGet s l[i]=s' at g1 g2 ih⊢
   obtain ⟨img,pads,mem,cpu,pad,T,nmi,ctrl,kn,ka,st,rd,pc,sn⟩:=s'
   have g1:img=s.img:=g1
   have g2:pads=s.pads:=g2
   subst g1 g2
   refine Eq.trans ih ?_
   rw[w1]
  ·have:i=l.length:=by omega
   subst this
   rw[ltI_f (by omega),List.drop_length,cond_false]
   show some (Sum.inl (c,((l.length:Int),())),(s.t,()))=some (Sum.inl (c+0,((l.length:Int),())),(s.t,()))
   rw[Int.add_zero]
theorem specPlay_loop (l:List Int) (hl:l.length≤3000): ∀(k i:Nat) (c:Int) (s:SplitM),SplitP s→s.reads.length+(l.length-i)≤4398046511000→i≤l.length→l.length-i<k→0≤c→c≤(i:Int)→
  n15_0 r51 r61 r62 r63 k (l,()) (s.t,()) (c,((i:Int),()))=some (Sum.inl (c+(playM (l.drop i) s).2,((l.length:Int),())),((playM (l.drop i) s).1.t,()))
 |0,_,_,_,_,_,_,h,_,_=>absurd h (by omega)
 |k+1,i,c,s,h,hr,hi,hk,c0,c1=>by
  show (bif ltI (i:Int) (l.length:Int)then (bif leI 0 (i:Int)then (bif ltI (i:Int) (l.length:Int)then (r51 (s.t,(rdE .i l (i:Int),()))).bind _ else none)else none)else some (Sum.inl (c,((i:Int),())),(s.t,())))=_
  by_cases hlt:i<l.length
  ·rw[ltI_t (by omega),leI_t (by omega),rdE_nat .i l i hlt,drop_cons' hlt]
   have hroom:Room s:=by unfold Room;omega
   refine bind_step (specPick_ok s l[i] h hroom) (bind_step (l1Bit_ok (pickIs s l[i],())) ?_)
   obtain ⟨a,b⟩:=pickGet_P h l[i]
   have f:=flagN_range (pickIs s l[i])
   have ih:=specPlay_loop l hl k (i+1) (c+flagN (pickIs s l[i])) (pickGet s l[i]) a (by omega) (by omega) (by omega) (by omega) (by omega)
   have w1:wI (c+flagN (pickIs s l[i]))=c+flagN (pickIs s l[i]):=wI_id (by omega) (by omega)
   have w2:wI ((i:Int)+1)=((i+1:Nat):Int):=wI_succ (by omega)
   rw[←w1,←w2]at ih
   have e:playM (l[i]::l.drop (i+1)) s=((playM (l.drop (i+1)) (pickGet s l[i])).1,flagN (pickIs s l[i])+(playM (l.drop (i+1)) (pickGet s l[i])).2):=rfl
   rw[e,←Int.add_assoc]
   refine Eq.trans ih ?_
   rw[w1]
  ·have:i=l.length:=by omega
   subst this
   rw[ltI_f (by omega),List.drop_length,cond_false]
   show some (Sum.inl (c,((l.length:Int),())),(s.t,()))=some (Sum.inl (c+0,((l.length:Int),())),(s.t,()))
   rw[Int.add_zero]
def playA (s:SplitM) (l:List Int):Tup splitL×Int:=if splitOk s.t then (if 3000<l.length then (s.t,-1)else ((playM l s).1.t,(playM l s).2))else (split0,-1)
theorem implPlay_a (s:SplitM) (l:List Int) (hs:splitOkS s.t) (hr:s.reads.length≤1048576) (hl:l.length≤4398046511104):r14 (s.t,(l,()))=some (((playA s l).1,((playA s l).2,())),()):=by
 have hroom:Room s:=by unfold Room;omega
 unfold r14 m14 playA
 refine bind_step (implSplitOk_ok s.t hs) ?_
 show (bif !splitOk s.t then _ else _)=_
 cases ho:splitOk s.t with
 |false=>rfl
 |true=>
  have h:=splitOk_iff.1 ho
  rw[Bool.not_true,cond_false,if_pos rfl]
  refine bind_step (copySplit_t s h hroom) ?_
  show (bif ltI 3000 (l.length:Int)then _ else _)=_
  by_cases hb:3000<l.length
  ·rw[ltI_t (by omega),if_pos hb];rfl
  ·rw[ltI_f (by omega),if_neg hb,cond_false]
   have k:=implPlay_loop l (by omega) fuel 0 0 s h (by omega) (by omega) (by have:=fuel_big;omega) (by decide) (by decide)
   simp only[Int.natCast_zero,List.drop_zero,Int.zero_add]at k
   refine bind_step k ?_
   obtain ⟨g1,g2⟩:=playM_img l s
   generalize playM l s=d at g1 g2⊢
   obtain ⟨⟨img,pads,mem,cpu,pad,T,nmi,ctrl,kn,ka,st,rd,pc,sn⟩,n⟩:=d
   have g1:img=s.img:=g1
   have g2:pads=s.pads:=g2
   subst g1 g2
   rfl
theorem specPlay_a (s:SplitM) (l:List Int) (hs:splitOkS s.t) (hr:s.reads.length≤1048576) (hl:l.length≤4398046511104):r15 (s.t,(l,()))=some (((playA s l).1,((playA s l).2,())),()):=by
 have hroom:Room s:=by unfold Room;omega
 unfold r15 m15 playA
 refine bind_step (specSplitOk_ok s.t hs) ?_
 show (bif !splitOk s.t then _ else _)=_
 cases ho:splitOk s.t with
 |false=>rfl
 |true=>
  have h:=splitOk_iff.1 ho
  rw[Bool.not_true,cond_false,if_pos rfl]
  refine bind_step (l15Copy_ok s h hroom) ?_
  show (bif ltI 3000 (l.length:Int)then _ else _)=_
  by_cases hb:3000<l.length
  ·rw[ltI_t (by omega),if_pos hb];rfl
  ·rw[ltI_f (by omega),if_neg hb,cond_false]
   have k:=specPlay_loop l (by omega) fuel 0 0 s h (by omega) (by omega) (by have:=fuel_big;omega) (by decide) (by decide)
   simp only[Int.natCast_zero,List.drop_zero,Int.zero_add]at k
   exact bind_step k rfl
def manyN (n:Int):Nat:=(if n<3000 then n else 3000).toNat
theorem manyN_le (n:Int):manyN n≤3000:=by unfold manyN;split<;>omega
theorem mnI_eq (n:Int):mnI n 3000=if n<3000 then n else 3000:=by
 unfold mnI
 by_cases h:n<3000
 ·rw[if_neg (by omega),if_pos h]
 ·rw[if_neg h]
  split<;>omega
theorem levelA_S {s:SplitM} (hs:splitOkS s.t) (hr:Room s):splitOkS (levelA s).t∧Room (levelA s):=by
 unfold levelA
 cases ho:splitOk s.t with
 |false=>exact ⟨hs,hr⟩
 |true=>exact ⟨sizes_of (levelM_P (splitOk_iff.1 ho)).1 hr,hr⟩

end Go.Proofs.YtgpifihakjdfeaaGreat.Plain
