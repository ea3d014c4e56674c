/- Plain laws of the printed functions: LockI, LockJ, LockK, LockL, TwinI. No condition beyond those that each lemma states. -/
import Derived.Test.YtgpifihakjdfeaaGreatPD
set_option linter.unusedVariables false
set_option linter.unusedSimpArgs false
namespace Go.Proofs.YtgpifihakjdfeaaGreat.Plain
open Go Go.Tev
theorem lockRead_ok (l:LockM) (a:Int) (h:LockP l) (hr:l.reads.length≤4398046511000):r107 (l.t,(a,()))=some ((readLV l a,()),((readL l a).t,())):=by
 have hl:leN (l.reads.length+1) (E.most .i)=true:=leN_t (by simp only[E.most];omega)
 unfold r107 m107 readL readLV
 refine bind_step (implRegion_ok (a,())) ?_
 show (bif eqI (rgT a).1 2 then _ else bif eqI (rgT a).1 3 then _ else bif eqI (rgT a).1 4 then _ else bif eqI (rgT a).1 7 then _ else _)=_
 by_cases c2:(rgT a).1=2
 ·rw[eqI_t c2,if_pos c2,if_pos c2,cond_true]
  refine bind_step (read_ok l.ppu h.ppu (rgT a).2) ?_
  obtain ⟨e1,e2⟩:=readP_rows l.ppu (rgT a).2
  generalize readP l.ppu (rgT a).2=q at e1 e2⊢
  obtain ⟨T,c,sc,ad,pal,bl,tb,ds⟩:=q
  have e1:tb=l.ppu.table:=e1
  have e2:ds=l.ppu.dots:=e2
  subst e1 e2
  show (bif leN (l.reads.length+1) (E.most .i)then _ else none)=_
  rw[hl];rfl
 rw[eqI_f c2,if_neg c2,if_neg c2,cond_false]
 by_cases c3:(rgT a).1=3
 ·rw[eqI_t c3,if_pos c3,if_pos c3,cond_true]
  refine bind_step (implApuRead_ok l.apu h.apu (rgT a).2) ?_
  show (bif leN (l.reads.length+1) (E.most .i)then _ else none)=_
  rw[hl];rfl
 rw[eqI_f c3,if_neg c3,if_neg c3,cond_false]
 by_cases c4:(rgT a).1=4
 ·rw[eqI_t c4,if_pos c4,if_pos c4,cond_true]
  refine bind_step (implPadRead_ok l.pad l.pads l.ppu.T h.pads h.ppu.t) ?_
  show (bif leN (l.reads.length+1) (E.most .i)then _ else none)=_
  rw[hl];rfl
 rw[eqI_f c4,if_neg c4,if_neg c4,cond_false]
 by_cases c7:(rgT a).1=7
 ·have hz:peekT l.img l.mem a=0:=by
   unfold peekT
   rw[if_neg (by omega),if_neg (by omega),if_neg (by omega)]
  rw[eqI_t c7,hz];rfl
 ·rw[eqI_f c7,cond_false]
  exact bind_step (implPeek1_ok l.img l.mem a h.mem) rfl
theorem lockWrite_any (l:LockM) (a v:Int) (h:LockP l):r119 (l.t,(a,(v,())))=some ((),((writeL l a v).t,())):=by
 unfold r119 m119 writeL
 refine bind_step (implRegion_ok (a,())) ?_
 show (bif eqI (rgT a).1 2 then _ else bif eqI (rgT a).1 3 then _ else bif eqI (rgT a).1 4 then _ else bif eqI (rgT a).1 1 then (bif eqI (rgT a).1 1 then _ else _)else bif eqI (rgT a).1 5 then (bif eqI (rgT a).1 5 then _ else _)else bif eqI (rgT a).1 6 then _ else _)=_
 by_cases c2:(rgT a).1=2
 ·rw[eqI_t c2,if_pos c2,cond_true]
  refine bind_step (write_ok l.ppu h.ppu (rgT a).2 v) ?_
  have e2:(writeP l.ppu (rgT a).2 v).dots=l.ppu.dots:=writeP_dots _ _ _
  generalize writeP l.ppu (rgT a).2 v=q at e2⊢
  obtain ⟨T,c,sc,ad,pal,bl,tb,ds⟩:=q
  have e2:ds=l.ppu.dots:=e2
  subst e2
  rfl
 rw[eqI_f c2,if_neg c2,cond_false]
 by_cases c3:(rgT a).1=3
 ·rw[eqI_t c3,if_pos c3,cond_true]
  exact bind_step (implApuWrite_ok l.apu h.apu (rgT a).2 v) rfl
 rw[eqI_f c3,if_neg c3,cond_false]
 by_cases c4:(rgT a).1=4
 ·rw[eqI_t c4,if_pos c4,cond_true]
  exact bind_step (implPadWrite_ok l.pad l.pads l.ppu.T v h.pads h.ppu.t) rfl
 rw[eqI_f c4,if_neg c4,cond_false]
 have kp:=implPoke_ok l.img l.mem a v h.mem
 by_cases c1:(rgT a).1=1
 ·rw[eqI_t c1,cond_true,cond_true]
  exact bind_step kp rfl
 rw[eqI_f c1,cond_false]
 by_cases c5:(rgT a).1=5
 ·rw[eqI_t c5,cond_true,cond_true]
  exact bind_step kp rfl
 rw[eqI_f c5,cond_false]
 by_cases c6:(rgT a).1=6
 ·rw[eqI_t c6,cond_true]
  exact bind_step kp rfl
 ·rw[eqI_f c6,cond_false]
  have e:pokeT l.img l.mem a v=l.mem:=by
   unfold pokeT
   rw[if_neg c1,if_neg (by omega)]
  rw[e]
theorem lockWrite_ok (l:LockM) (a v:Int) (h:LockP l) (_:0≤v∧v≤255):r119 (l.t,(a,(v,())))=some ((),((writeL l a v).t,())):=lockWrite_any l a v h
theorem lockInter_ok (l:LockM) (v:Int) (h:LockP l) (hv:65530≤v∧v≤65534):r151 (l.t,(v,()))=some ((),((interL l v).t,())):=by
 unfold r151 m151
 have e:wI (v+1)=v+1:=wI_id (by omega) (by omega)
 have k:=implPeek1_ok l.img l.mem (v+1) h.mem
 rw[←e]at k
 refine bind_step (implPeek1_ok l.img l.mem v h.mem) (bind_step k (bind_step (implJoin_ok (peekT l.img l.mem v,(peekT l.img l.mem (wI (v+1)),()))) (bind_step (enter_ok l.mem l.cpu (joinN (peekT l.img l.mem v) (peekT l.img l.mem (wI (v+1)))) h.mem.ram h.cpu) ?_)))
 rw[e];rfl
theorem readL_rows (l:LockM) (a:Int):(readL l a).ppu.table=l.ppu.table∧(readL l a).ppu.dots=l.ppu.dots∧(readL l a).frames=l.frames∧(readL l a).samples=l.samples:=by
 obtain ⟨e1,e2⟩:=readP_rows l.ppu (rgT a).2
 unfold readL
 repeat' split
 all_goals first|exact ⟨e1,e2,rfl,rfl⟩|exact ⟨rfl,rfl,rfl,rfl⟩
theorem writeL_rows (l:LockM) (a v:Int):(writeL l a v).ppu.dots=l.ppu.dots∧(writeL l a v).frames=l.frames∧(writeL l a v).samples=l.samples:=by
 have e2:(writeP l.ppu (rgT a).2 v).dots=l.ppu.dots:=writeP_dots _ _ _
 unfold writeL
 repeat' split
 all_goals first|exact ⟨e2,rfl,rfl⟩|exact ⟨rfl,rfl,rfl⟩
theorem opL_rows (l:LockM) (op arg:Int):(opL l op arg).img=l.img∧(opL l op arg).pads=l.pads∧(opL l op arg).ppu.dots=l.ppu.dots∧(opL l op arg).frames=l.frames∧(opL l op arg).samples=l.samples:=by
 unfold opL
 split
 ·obtain ⟨f1,f2,f3,f4,f5,f6⟩:=readL_img l (accA op arg l.cpu.x)
  obtain ⟨g1,g2,g3,g4⟩:=readL_rows l (accA op arg l.cpu.x)
  exact ⟨f1,f5,g2,g3,g4⟩
 split
 ·obtain ⟨f1,f2,f3,f4,f5,f6⟩:=writeL_img l (accA op arg l.cpu.x) (l.cpu.a%256)
  obtain ⟨g1,g2,g3⟩:=writeL_rows l (accA op arg l.cpu.x) (l.cpu.a%256)
  exact ⟨f1,f5,g1,g2,g3⟩
 ·exact ⟨rfl,rfl,rfl,rfl,rfl⟩
theorem lockOp_ok (l:LockM) (op arg:Int) (h:LockP l) (hr:l.reads.length≤4398046511000) (ha:0≤arg∧arg≤65535):r152 (l.t,((op,(arg,())),()))=some ((),((opL l op arg).t,())):=by
 unfold r152 m152 opL
 refine bind_step (implAccess_ok op arg l.cpu h.cpu ha) ?_
 show (bif eqI (opAccN op) 1 then _ else bif eqI (opAccN op) 2 then _ else _)=_
 by_cases o1:opAccN op=1
 ·rw[eqI_t o1,if_pos o1,cond_true]
  refine bind_step (lockRead_ok l (accA op arg l.cpu.x) h hr) ?_
  have hv:=readLV_b h (accA op arg l.cpu.x)
  obtain ⟨f1,f2,f3,f4,f5,f6⟩:=readL_img l (accA op arg l.cpu.x)
  obtain ⟨g1,g2,g3,g4⟩:=readL_rows l (accA op arg l.cpu.x)
  generalize readLV l (accA op arg l.cpu.x)=v at hv⊢
  generalize readL l (accA op arg l.cpu.x)=l' at f1 f2 f3 f4 f5 f6 g1 g2 g3 g4⊢
  obtain ⟨img,pads,mem,cpu,⟨pT,pc,ps,pa,pp,pb,ptb,pds⟩,apu,pad,nmi,st,fr,sm,rd⟩:=l'
  have f1:img=l.img:=f1
  have f2:mem=l.mem:=f2
  have f3:cpu=l.cpu:=f3
  have f5:pads=l.pads:=f5
  have g1:ptb=l.ppu.table:=g1
  have g2:pds=l.ppu.dots:=g2
  have g3:fr=l.frames:=g3
  have g4:sm=l.samples:=g4
  subst f1 f2 f3 f5 g1 g2 g3 g4
  exact bind_step (exec_ok l.mem l.cpu op arg v h.mem.ram h.cpu hv) rfl
 rw[eqI_f o1,if_neg o1,cond_false]
 by_cases o2:opAccN op=2
 ·rw[eqI_t o2,if_pos o2,cond_true]
  have ev:accV op l.cpu.a=l.cpu.a%256:=by unfold accV;rw[if_pos o2]
  have kw:=lockWrite_ok l (accA op arg l.cpu.x) (l.cpu.a%256) h (mod256 _)
  rw[←ev]at kw
  refine bind_step kw ?_
  rw[ev]
  have hq:=writeL_P h (accA op arg l.cpu.x) (l.cpu.a%256)
  obtain ⟨f1,f2,f3,f4,f5,f6⟩:=writeL_img l (accA op arg l.cpu.x) (l.cpu.a%256)
  obtain ⟨g1,g2,g3⟩:=writeL_rows l (accA op arg l.cpu.x) (l.cpu.a%256)
  generalize writeL l (accA op arg l.cpu.x) (l.cpu.a%256)=l' at hq f1 f2 f3 f4 f5 f6 g1 g2 g3⊢
  have h1:=hq.mem.ram
  have h2:=hq.cpu
  clear hq
  obtain ⟨img,pads,mem,cpu,⟨pT,pc,ps,pa,pp,pb,ptb,pds⟩,apu,pad,nmi,st,fr,sm,rd⟩:=l'
  have f1:img=l.img:=f1
  have f4:rd=l.reads:=f4
  have f5:pads=l.pads:=f5
  have g1:pds=l.ppu.dots:=g1
  have g2:fr=l.frames:=g2
  have g3:sm=l.samples:=g3
  subst f1 f4 f5 g1 g2 g3
  exact bind_step (exec_ok mem cpu op arg 0 h1 h2 (by decide)) rfl
 ·rw[eqI_f o2,if_neg o2,cond_false]
  have ev:accV op l.cpu.a=0:=by unfold accV;rw[if_neg o2]
  have k:=exec_ok l.mem l.cpu op arg 0 h.mem.ram h.cpu (by decide)
  rw[←ev]at k
  refine bind_step k ?_
  rw[ev];rfl
theorem tick_room {l:LockM} (h:LockP l):leN (l.frames.length+1) (E.most .n)=true∧leN (l.samples.length+1) (E.most .i)=true:=by
 have h1:=h.frn
 have h2:=h.sam
 have h3:=h.ppu.t
 unfold framesN at h1
 exact ⟨leN_t (by simp only[E.most];omega),leN_t (by simp only[E.most];omega)⟩
theorem lockTick_ok (l:LockM) (h:LockP l) (ht:l.ppu.T<20000):r153 (l.t,())=some ((),((tickL l).t,())):=by
 obtain ⟨hf,hs⟩:=tick_room h
 have kp:=tick_ok l.ppu h.ppu ht
 have ka:=apuTick_ok l.apu h.apu (by rw[h.t];exact ht)
 have et:=tickP_table l.ppu
 unfold r153 m153
 refine bind_step kp ?_
 clear kp h ht
 unfold tickL
 obtain ⟨img,pads,mem,cpu,ppu,apu,pad,nmi,steps,frames,samples,reads⟩:=l
 dsimp only at hf hs ka et⊢
 generalize tickP ppu=q at et⊢
 generalize toldP ppu=b
 generalize frameP ppu=fr
 generalize asksP ppu=aq
 generalize toldA apu=b2 at ka⊢
 generalize sampleA apu=sa at ka⊢
 generalize tickA apu=a' at ka⊢
 obtain ⟨T,c,sc,ad,pal,bl,tb,ds⟩:=q
 have et:tb=ppu.table:=et
 subst et
 cases b with
 |true=>
  show (bif leN (frames.length+1) (E.most .n)then (bif nmi then _ else _)else none)=_
  rw[hf,cond_true]
  cases nmi with
  |true=>
   rw[cond_true]
   refine bind_step ka ?_
   cases b2 with
   |true=>show (bif leN (samples.length+1) (E.most .i)then _ else none)=_;rw[hs];rfl
   |false=>rfl
  |false=>
   rw[cond_false]
   refine bind_step ka ?_
   cases b2 with
   |true=>show (bif leN (samples.length+1) (E.most .i)then _ else none)=_;rw[hs];rfl
   |false=>rfl
 |false=>
  show (bif nmi then _ else _)=_
  cases nmi with
  |true=>
   rw[cond_true]
   refine bind_step ka ?_
   cases b2 with
   |true=>show (bif leN (samples.length+1) (E.most .i)then _ else none)=_;rw[hs];rfl
   |false=>rfl
  |false=>
   rw[cond_false]
   refine bind_step ka ?_
   cases b2 with
   |true=>show (bif leN (samples.length+1) (E.most .i)then _ else none)=_;rw[hs];rfl
   |false=>rfl
theorem ticksL_rows: ∀(n:Nat) (l:LockM),(ticksL n l).img=l.img∧(ticksL n l).pads=l.pads∧(ticksL n l).mem=l.mem∧(ticksL n l).ppu.table=l.ppu.table∧(ticksL n l).reads=l.reads
 |0,l=>⟨rfl,rfl,rfl,rfl,rfl⟩
 |n+1,l=>by
  obtain ⟨a,b,c,d,e⟩:=ticksL_rows n (tickL l)
  exact ⟨a,b,c,d.trans (tickP_table l.ppu),e⟩
theorem lockTicks_loop (c:Int) (hc:c≤7): ∀(d k:Nat) (i:Int) (l:LockM),0≤i→i+d=c→d<k→LockP l→l.ppu.T+d≤20000→
  n84_0 r151 r152 r153 r150 r149 k (c,()) (l.t,()) (i,())=some (Sum.inl (c,()),((ticksL d l).t,()))
 |_,0,_,_,_,_,h,_,_=>absurd h (by omega)
 |0,k+1,i,l,h0,hi,_,_,_=>by
  show (bif ltI i c then _ else some (Sum.inl (i,()),(l.t,())))=_
  rw[ltI_f (by omega),cond_false,show i=c by omega];rfl
 |d+1,k+1,i,l,h0,hi,hk,h,ht=>by
  show (bif ltI i c then (r153 (l.t,())).bind _ else _)=_
  rw[ltI_t (by omega),cond_true]
  refine bind_step (lockTick_ok l h (by omega)) ?_
  have e:wI (i+1)=i+1:=wI_id (by omega) (by omega)
  have ih:=lockTicks_loop c hc d k (i+1) (tickL l) (by omega) (by omega) (by omega) (tickL_P h (by omega)) (by rw[tickL_t];omega)
  rw[←e]at ih
  show _=some (Sum.inl (c,()),((ticksL d (tickL l)).t,()))
  generalize ticksL d (tickL l)=z at ih⊢
  have e1:(tickL l).ppu.table=l.ppu.table:=tickP_table _
  have e2:(tickL l).img=l.img:=rfl
  have e3:(tickL l).pads=l.pads:=rfl
  have e4:(tickL l).mem=l.mem:=rfl
  have e5:(tickL l).reads=l.reads:=rfl
  generalize tickL l=l' at ih e1 e2 e3 e4 e5⊢
  obtain ⟨img,pads,mem,cpu,⟨pT,pc,ps,pa,pp,pb,ptb,pds⟩,apu,pad,nmi,st,fr,sm,rd⟩:=l'
  have e1:ptb=l.ppu.table:=e1
  have e2:img=l.img:=e2
  have e3:pads=l.pads:=e3
  have e4:mem=l.mem:=e4
  have e5:rd=l.reads:=e5
  subst e1 e2 e3 e4 e5
  exact ih
theorem lockTicks (m:LockM) (c:Int) (hc:2≤c∧c≤7) (h:LockP m) (ht:m.ppu.T+c≤20000):L84_0 (c,()) (m.t,()) (0,())=some (Sum.inl (c,()),((ticksL c.toNat m).t,())):=
 lockTicks_loop c hc.2 c.toNat fuel 0 m (by omega) (by omega) (by have:=fuel_big;omega) h (by omega)
def stepGetL (l:LockM):LockM:=if mayL l then stepL l else l
theorem steps_wI {m:LockM} {n:Nat} (h:LockP m) (ht:m.ppu.T+n≤20000):wI ((ticksL n m).steps+1)=(ticksL n m).steps+1:=by
 obtain ⟨a,b,c,d⟩:=ticksL_P h ht
 have:=a.s0
 have:=a.s1
 exact wI_id (by omega) (by omega)
theorem stepGetL_of {l:LockM} (hm:mayL l=true) {m:LockM} (hd:doL l=m) {c:Int} (hc:cyclesL l=c):stepGetL l={(ticksL c.toNat m)with steps:=(ticksL c.toNat m).steps+1}:=by
 unfold stepGetL
 rw[if_pos hm]
 unfold stepL
 rw[hc,hd]
theorem lockStep_ok (l:LockM) (h:LockP l) (hr:l.reads.length≤4398046511000):r84 (l.t,())=some ((mayL l,()),((stepGetL l).t,())):=by
 have kf:=fetch_ok l.img l.mem l.cpu.pc h.mem h.cpu.pc
 have kc:=implOpCycles_ok (fetchOp l,())
 have hb:=cyclesL_b l
 have hT:=h.ppu.t
 have hP:=doL_P h
 have hdt:=doL_t l
 have ho:=opCycN_b (fetchOp l)
 unfold r84 m84
 show (bif l.nmi then _ else bif l.apu.irq then _ else _)=_
 cases hn:l.nmi with
 |true=>
  have hc:cyclesL l=7:=by unfold cyclesL askedL;rw[hn];rfl
  have hd:doL l=interL {l with nmi:=false} 65530:=by unfold doL;rw[hn];rfl
  have ew:wI (l.ppu.T+7)=l.ppu.T+7:=wI_id (by omega) (by omega)
  rw[cond_true]
  refine bind_step kf (bind_step kc ?_)
  show (bif ltI 20000 (wI (l.ppu.T+7))then _ else bif l.nmi then _ else _)=_
  rw[ew,hn,cond_true]
  by_cases hm:l.ppu.T+7≤20000
  ·have hmay:mayL l=true:=decide_eq_true (by rw[hc];exact hm)
   rw[ltI_f (by omega),cond_false]
   refine bind_step (lockInter_ok {l with nmi:=false} 65530 ⟨h.mem,h.pads,h.cpu,h.ppu,h.apu,h.pad,h.t,h.s0,h.s1,h.fr,h.frn,h.sam⟩ (by omega)) ?_
   rw[hd]at hP
   have hq:(interL {l with nmi:=false} 65530).ppu.T+7≤20000:=hm
   have kt:L84_0 (7,()) ((interL {l with nmi:=false} 65530).t,()) (0,())=some (Sum.inl (7,()),((ticksL 7 (interL {l with nmi:=false} 65530)).t,())):=lockTicks (interL {l with nmi:=false} 65530) 7 (by omega) hP hq
   refine bind_step kt ?_
   clear kt
   have hw:=steps_wI (n:=7) hP hq
   obtain ⟨r1,r2,r3,r4,r5⟩:=ticksL_rows 7 (interL {l with nmi:=false} 65530)
   rw[hmay,stepGetL_of hmay hd hc]
   show _=some ((true,()),(LockM.t {(ticksL 7 (interL {l with nmi:=false} 65530))with steps:=(ticksL 7 (interL {l with nmi:=false} 65530)).steps+1},()))
   rw[←hw]
   generalize ticksL 7 (interL {l with nmi:=false} 65530)=q at r1 r2 r3 r4 r5⊢
   obtain ⟨img,pads,mem,cpu,⟨pT,pc,ps,pa,pp,pb,ptb,pds⟩,apu,pad,nmi,st,fr,sm,rd⟩:=q
   have r1:img=l.img:=r1
   have r2:pads=l.pads:=r2
   have r3:mem=enterM l.mem l.cpu:=r3
   have r4:ptb=l.ppu.table:=r4
   have r5:rd=l.reads:=r5
   subst r1 r2 r3 r4 r5
   rfl
  ·have hmay:mayL l=false:=decide_eq_false (by rw[hc];exact hm)
   rw[ltI_t (by omega),cond_true,hmay]
   unfold stepGetL
   rw[hmay,if_neg (by simp)]
 |false=>
  rw[cond_false]
  by_cases hq:l.apu.irq=true∧l.cpu.i=false
  ·obtain ⟨hirq,hi⟩:=hq
   have hc:cyclesL l=7:=by unfold cyclesL askedL;rw[hn,hirq,hi];rfl
   have hd:doL l=interL l 65534:=by unfold doL;rw[hn,hirq,hi];rfl
   have ew:wI (l.ppu.T+7)=l.ppu.T+7:=wI_id (by omega) (by omega)
   rw[hirq,cond_true]
   refine bind_step kf (bind_step kc ?_)
   show (bif !l.cpu.i then (bif ltI 20000 (wI (l.ppu.T+7))then _ else bif l.nmi then _ else bif !l.cpu.i then _ else _)else _)=_
   rw[ew,hn,hi,Bool.not_false,cond_true,cond_false,cond_true]
   by_cases hm:l.ppu.T+7≤20000
   ·have hmay:mayL l=true:=decide_eq_true (by rw[hc];exact hm)
    rw[ltI_f (by omega),cond_false]
    refine bind_step (lockInter_ok l 65534 h (by omega)) ?_
    rw[hd]at hP
    have hq:(interL l 65534).ppu.T+7≤20000:=hm
    have kt:L84_0 (7,()) ((interL l 65534).t,()) (0,())=some (Sum.inl (7,()),((ticksL 7 (interL l 65534)).t,())):=lockTicks (interL l 65534) 7 (by omega) hP hq
    refine bind_step kt ?_
    clear kt
    have hw:=steps_wI (n:=7) hP hq
    obtain ⟨r1,r2,r3,r4,r5⟩:=ticksL_rows 7 (interL l 65534)
    rw[hmay,stepGetL_of hmay hd hc]
    show _=some ((true,()),(LockM.t {(ticksL 7 (interL l 65534))with steps:=(ticksL 7 (interL l 65534)).steps+1},()))
    rw[←hw]
    generalize ticksL 7 (interL l 65534)=q at r1 r2 r3 r4 r5⊢
    obtain ⟨img,pads,mem,cpu,⟨pT,pc,ps,pa,pp,pb,ptb,pds⟩,apu,pad,nmi,st,fr,sm,rd⟩:=q
    have r1:img=l.img:=r1
    have r2:pads=l.pads:=r2
    have r3:mem=enterM l.mem l.cpu:=r3
    have r4:ptb=l.ppu.table:=r4
    have r5:rd=l.reads:=r5
    subst r1 r2 r3 r4 r5
    rfl
   ·have hmay:mayL l=false:=decide_eq_false (by rw[hc];exact hm)
    rw[ltI_t (by omega),cond_true,hmay]
    unfold stepGetL
    rw[hmay,if_neg (by simp)]
  ·have hask:askedL l=false:=by
    unfold askedL
    rw[hn]
    cases h1:l.apu.irq with
    |false=>rfl
    |true=>
     cases h2:l.cpu.i with
     |true=>rfl
     |false=>exact absurd ⟨h1,h2⟩ hq
   have hc:cyclesL l=opCycN (fetchOp l):=by unfold cyclesL;rw[hask];rfl
   have hd:doL l=opL l (fetchOp l) (fetchArg l):=by
    unfold doL
    unfold askedL at hask
    rw[hn,Bool.false_or]at hask
    rw[hn,hask];rfl
   have ew:wI (l.ppu.T+opCycN (fetchOp l))=l.ppu.T+opCycN (fetchOp l):=wI_id (by omega) (by omega)
   have key: ∀(X:Option (PTup o84×BTup i84)),
     X=(bif ltI 20000 (wI (l.ppu.T+opCycN (fetchOp l)))then (some ((false,()),(l.t,())))else (r152 (l.t,((fetchOp l,(fetchArg l,())),()))).bind fun r2=>(L84_0 (opCycN (fetchOp l),()) (LockM.t {lkM r2.2.1 with img:=l.img,pads:=l.pads,frames:=l.frames,samples:=l.samples,ppu:={(lkM r2.2.1).ppu with dots:=l.ppu.dots}},()) (0,())).bind fun r3=>sumElim r3.1 (fun r4=>some ((true,()),(LockM.t {lkM r3.2.1 with img:=l.img,pads:=l.pads,mem:=⟨(lkM r2.2.1).mem.ram,(lkM r3.2.1).mem.bank⟩,ppu:={(lkM r3.2.1).ppu with table:=(lkM r2.2.1).ppu.table},reads:=(lkM r2.2.1).reads,steps:=wI ((lkM r3.2.1).steps+1)},()))) (fun r4=>some ((false,()),(LockM.t {lkM r3.2.1 with img:=l.img,pads:=l.pads,mem:=⟨(lkM r2.2.1).mem.ram,(lkM r3.2.1).mem.bank⟩,ppu:={(lkM r3.2.1).ppu with table:=(lkM r2.2.1).ppu.table},reads:=(lkM r2.2.1).reads},()))))→
     X=some ((mayL l,()),((stepGetL l).t,())):=by
    intro X hX
    rw[hX,ew]
    by_cases hm:l.ppu.T+opCycN (fetchOp l)≤20000
    ·have hmay:mayL l=true:=decide_eq_true (by rw[hc];exact hm)
     rw[ltI_f (by omega),cond_false]
     refine bind_step (lockOp_ok l (fetchOp l) (fetchArg l) h hr (argT_b h.mem _)) ?_
     rw[hmay,stepGetL_of hmay hd hc]
     obtain ⟨q1,q2,q3,q4,q5⟩:=opL_rows l (fetchOp l) (fetchArg l)
     rw[hd]at hP hdt
     generalize opL l (fetchOp l) (fetchArg l)=m at q1 q2 q3 q4 q5 hP hdt⊢
     have hq:m.ppu.T+opCycN (fetchOp l)≤20000:=by rw[hdt];exact hm
     have kt:=lockTicks m (opCycN (fetchOp l)) (by omega) hP hq
     have hw:=steps_wI (n:=(opCycN (fetchOp l)).toNat) hP (by omega)
     obtain ⟨r1,r2,r3,r4,r5⟩:=ticksL_rows (opCycN (fetchOp l)).toNat m
     clear hP hdt hq
     generalize ticksL (opCycN (fetchOp l)).toNat m=q at kt hw r1 r2 r3 r4 r5⊢
     obtain ⟨img,pads,mem,cpu,⟨pT,pc,ps,pa,pp,pb,ptb,pds⟩,apu,pad,nmi,st,fr,sm,rd⟩:=m
     have q1:img=l.img:=q1
     have q2:pads=l.pads:=q2
     have q3:pds=l.ppu.dots:=q3
     have q4:fr=l.frames:=q4
     have q5:sm=l.samples:=q5
     subst q1 q2 q3 q4 q5
     refine bind_step kt ?_
     obtain ⟨img,pads,mem',cpu',⟨pT',pc',ps',pa',pp',pb',ptb',pds'⟩,apu',pad',nmi',st',fr',sm',rd'⟩:=q
     change img=l.img at r1
     change pads=l.pads at r2
     change mem'=mem at r3
     change ptb'=ptb at r4
     change rd'=rd at r5
     subst r1 r2 r3 r4 r5
     have hw:wI (st'+1)=st'+1:=hw
     show _=some ((true,()),(LockM.t ⟨_,_,_,_,_,_,_,_,st'+1,_,_,_⟩,()))
     rw[←hw]
     rfl
    ·have hmay:mayL l=false:=decide_eq_false (by rw[hc];exact hm)
     rw[ltI_t (by omega),cond_true,hmay]
     unfold stepGetL
     rw[hmay,if_neg (by simp)]
   cases hirq:l.apu.irq with
   |true=>
    have hi:l.cpu.i=true:=by
     cases h2:l.cpu.i with
     |true=>rfl
     |false=>exact absurd ⟨hirq,h2⟩ hq
    rw[cond_true]
    refine bind_step kf (bind_step kc ?_)
    show (bif !l.cpu.i then _ else bif ltI 20000 (wI (l.ppu.T+opCycN (fetchOp l)))then _ else bif l.nmi then _ else bif !l.cpu.i then _ else _)=_
    rw[hn,hi,Bool.not_true,cond_false,cond_false,cond_false]
    exact key _ rfl
   |false=>
    rw[cond_false]
    refine bind_step kf (bind_step kc ?_)
    show (bif ltI 20000 (wI (l.ppu.T+opCycN (fetchOp l)))then _ else bif l.nmi then _ else _)=_
    rw[hn,cond_false]
    exact key _ rfl
def lockOkM (l:LockM):Bool:=memOk l.img l.mem.t&&(padsOk l.pads&&(cpuOk l.cpu.t&&(ppuOk l.ppu.t&&(apuOk l.apu.t&&(inR 0 255 l.pad.t.2.1&&(eqI l.apu.T l.ppu.T&&(inR 0 l.ppu.T l.steps&&(framesOk l.frames l.ppu.T&&samplesOk l.samples l.ppu.T))))))))
theorem lockOkM_iff {l:LockM}:lockOkM l=true↔LockP l:=by
 unfold lockOkM
 simp only[Bool.and_eq_true]
 constructor
 ·rintro ⟨a,b,c,d,e,f,g,h,i,j⟩
  have d:=ppuOk_iff.1 d
  obtain ⟨i1,i2⟩:=(framesOk_iff d.t.1).1 i
  have h:=inR_iff.1 h
  exact ⟨memOk_iff.1 a,padsOk_iff.1 b,cpuOk_iff.1 c,d,apuOk_iff.1 e,inR_iff.1 f,eqI_iff.1 g,h.1,h.2,i1,i2,(samplesOk_iff d.t.1).1 j⟩
 ·rintro ⟨a,b,c,d,e,f,g,h0,h1,i1,i2,j⟩
  exact ⟨memOk_iff.2 a,padsOk_iff.2 b,cpuOk_iff.2 c,ppuOk_iff.2 d,apuOk_iff.2 e,inR_iff.2 f,eqI_iff.2 g,inR_iff.2 ⟨h0,h1⟩,(framesOk_iff d.t.1).2 ⟨i1,i2⟩,(samplesOk_iff d.t.1).2 j⟩
theorem implLockOk_ok (l:LockM) (hs:lockOkS l.t):r49 (l.t,())=some ((lockOkM l,()),()):=by
 obtain ⟨h1,h2,h3,h4,⟨h5,_,_⟩,h6,h7⟩:=hs
 have h2:l.pads.length≤4398046511104:=h2
 unfold r49 m49 lockOkM
 refine bind_step (implMemOk_ok l.img l.mem.t h1 h3) ?_
 show (bif memOk l.img l.mem.t then _ else _)=_
 cases memOk l.img l.mem.t with
 |false=>rfl
 |true=>
 rw[cond_true,Bool.true_and]
 refine bind_step (implPadsOk_ok l.pads (by omega)) ?_
 show (bif padsOk l.pads then _ else _)=_
 cases padsOk l.pads with
 |false=>rfl
 |true=>
 rw[cond_true,Bool.true_and]
 refine bind_step (implCpuOk_ok l.cpu.t) ?_
 show (bif cpuOk l.cpu.t then _ else _)=_
 cases cpuOk l.cpu.t with
 |false=>rfl
 |true=>
 rw[cond_true,Bool.true_and]
 refine bind_step (implPpuOk_ok l.ppu.t h4) ?_
 show (bif ppuOk l.ppu.t then _ else _)=_
 cases e:ppuOk l.ppu.t with
 |false=>rfl
 |true=>
 have hT:=(ppuOk_iff.1 e).t
 rw[cond_true,Bool.true_and]
 refine bind_step (implApuOk_ok l.apu.t) ?_
 show (bif apuOk l.apu.t then _ else _)=_
 cases apuOk l.apu.t with
 |false=>rfl
 |true=>
 rw[cond_true,Bool.true_and]
 refine bind_step (isByte_ok (l.pad.t.2.1,())) ?_
 show (bif inR 0 255 l.pad.t.2.1 then _ else _)=_
 cases inR 0 255 l.pad.t.2.1 with
 |false=>rfl
 |true=>
 rw[cond_true,Bool.true_and]
 show (bif eqI l.apu.T l.ppu.T then _ else _)=_
 cases eqI l.apu.T l.ppu.T with
 |false=>rfl
 |true=>
 rw[cond_true,Bool.true_and]
 refine bind_step (within_ok (l.steps,(0,(l.ppu.T,())))) ?_
 show (bif inR 0 l.ppu.T l.steps then _ else _)=_
 cases inR 0 l.ppu.T l.steps with
 |false=>rfl
 |true=>
 rw[cond_true,Bool.true_and]
 refine bind_step (implFramesOk_ok l.frames l.ppu.T h5 hT.1 hT.2) ?_
 show (bif framesOk l.frames l.ppu.T then _ else _)=_
 cases framesOk l.frames l.ppu.T with
 |false=>rfl
 |true=>
 rw[cond_true,Bool.true_and]
 exact bind_step (implSamplesOk_ok l.samples l.ppu.T hT.1 hT.2) rfl
theorem specLockOk_ok (l:LockM) (hs:lockOkS l.t):r43 (l.t,())=some ((lockOkM l,()),()):=by
 obtain ⟨h1,h2,h3,h4,⟨h5,_,_⟩,h6,h7⟩:=hs
 have h2:l.pads.length≤4398046511104:=h2
 unfold r43 m43 lockOkM
 rw[Bool.and_left_comm (memOk l.img l.mem.t)]
 refine bind_step (specPadsOk_ok l.pads (by omega)) ?_
 show (bif padsOk l.pads then _ else _)=_
 cases padsOk l.pads with
 |false=>rfl
 |true=>
 rw[cond_true,Bool.true_and]
 refine bind_step (specMemOk_ok l.img l.mem.t h1 h3) ?_
 show (bif memOk l.img l.mem.t then _ else _)=_
 cases memOk l.img l.mem.t with
 |false=>rfl
 |true=>
 rw[cond_true,Bool.true_and]
 refine bind_step (specCpuOk_ok l.cpu.t) ?_
 show (bif cpuOk l.cpu.t then _ else _)=_
 cases cpuOk l.cpu.t with
 |false=>rfl
 |true=>
 rw[cond_true,Bool.true_and]
 refine bind_step (specPpuOk_ok l.ppu.t h4) ?_
 show (bif ppuOk l.ppu.t then _ else _)=_
 cases e:ppuOk l.ppu.t with
 |false=>rfl
 |true=>
 have hT:=(ppuOk_iff.1 e).t
 rw[cond_true,Bool.true_and]
 refine bind_step (specApuOk_ok l.apu.t) ?_
 show (bif apuOk l.apu.t then _ else _)=_
 cases apuOk l.apu.t with
 |false=>rfl
 |true=>
 rw[cond_true,Bool.true_and]
 refine bind_step (l5Byte_ok (l.pad.t.2.1,())) ?_
 show (bif inR 0 255 l.pad.t.2.1 then _ else _)=_
 cases inR 0 255 l.pad.t.2.1 with
 |false=>rfl
 |true=>
 rw[cond_true,Bool.true_and]
 show (bif eqI l.ppu.T l.apu.T then _ else _)=_
 rw[show eqI l.ppu.T l.apu.T=eqI l.apu.T l.ppu.T by by_cases e:l.ppu.T=l.apu.T;rw[eqI_t e,eqI_t e.symm];rw[eqI_f e,eqI_f (Ne.symm e)]]
 cases eqI l.apu.T l.ppu.T with
 |false=>rfl
 |true=>
 rw[cond_true,Bool.true_and]
 refine bind_step (l1In_ok (l.steps,(0,(l.ppu.T,())))) ?_
 show (bif inR 0 l.ppu.T l.steps then _ else _)=_
 cases inR 0 l.ppu.T l.steps with
 |false=>rfl
 |true=>
 rw[cond_true,Bool.true_and]
 refine bind_step (specFramesOk_ok l.frames l.ppu.T h5 hT.1 hT.2) ?_
 show (bif framesOk l.frames l.ppu.T then _ else _)=_
 cases framesOk l.frames l.ppu.T with
 |false=>rfl
 |true=>
 rw[cond_true,Bool.true_and]
 show some ((eqI (l.samples.length:Int) (wI (Int.tdiv l.ppu.T 16)),()),())=_
 unfold samplesOk
 rw[wI_id (by rw[tdiv_nn hT.1];omega) (by rw[tdiv_nn hT.1];omega)]
theorem copyLock_t (l:LockM) (hs:lockOkS l.t):r83 (l.t,())=some ((l.t,()),()):=by
 obtain ⟨h1,h2,h3,h4,h5,h6,h7⟩:=hs
 unfold r83 m83
 exact bind_step (copyImage_ok l.img h1) (bind_step (copyInts_ok l.pads h2) (bind_step (copyMem_ok l.mem.t h3) (bind_step (copyPpu_ok l.ppu.t h4) (bind_step (copyFrames_ok l.frames h5) (bind_step (copyInts_ok l.samples h6) (bind_step (copyInts_ok l.reads h7) rfl))))))
theorem lock_sizes {l:LockM} (h:LockP l) (hr:l.reads.length≤4398046511000):lockOkS l.t:=h.s (by omega)
theorem doL_img (l:LockM):(doL l).img=l.img∧(doL l).pads=l.pads:=by
 unfold doL
 split
 ·exact ⟨rfl,rfl⟩
 split
 ·exact ⟨rfl,rfl⟩
 ·obtain ⟨a,b,_⟩:=opL_rows l (fetchOp l) (fetchArg l);exact ⟨a,b⟩
theorem stepL_img (l:LockM):(stepL l).img=l.img∧(stepL l).pads=l.pads:=by
 obtain ⟨a,b,_⟩:=ticksL_rows (cyclesL l).toNat (doL l)
 exact ⟨a.trans (doL_img l).1,b.trans (doL_img l).2⟩
theorem runL_img: ∀(n:Nat) (l:LockM),(runL n l).1.img=l.img∧(runL n l).1.pads=l.pads
 |0,l=>⟨rfl,rfl⟩
 |n+1,l=>by
  unfold runL
  split
  ·obtain ⟨a,b⟩:=runL_img n (stepL l)
   exact ⟨a.trans (stepL_img l).1,b.trans (stepL_img l).2⟩
  ·exact ⟨rfl,rfl⟩
theorem runL_f {j:Nat} {l:LockM} (h:mayL l=false):runL (j+1) l=(l,0):=by
 show (if mayL l then _ else _)=_
 rw[h,if_neg (by simp)]
theorem runL_t {j:Nat} {l:LockM} (h:mayL l=true):runL (j+1) l=((runL j (stepL l)).1,(runL j (stepL l)).2+1):=by
 show (if mayL l then _ else _)=_
 rw[h,if_pos rfl]
theorem stepGetL_f {l:LockM} (h:mayL l=false):stepGetL l=l:=by unfold stepGetL;rw[h,if_neg (by simp)]
theorem stepGetL_t {l:LockM} (h:mayL l=true):stepGetL l=stepL l:=by unfold stepGetL;rw[h,if_pos rfl]
theorem implLockRun_loop (n:Int): ∀(k i j:Nat) (l:LockM),LockP l→l.reads.length+j≤4398046511000→j<k→manyN n=i+j→
  n25_0 r84 r49 r83 k (n,()) (l.t,()) ((i:Int),())=some (Sum.inl (((i+(runL j l).2:Nat):Int),()),((runL j l).1.t,()))
 |0,_,_,_,_,_,h,_=>absurd h (by omega)
 |k+1,i,j,l,h,hr,hk,hm=>by
  have hb:=manyN_le n
  show (bif ltI (i:Int) (mnI n 3000)then (r84 (l.t,())).bind _ else some (Sum.inl ((i:Int),()),(l.t,())))=_
  cases j with
  |zero=>
   rw[mnI_eq,ltI_f (by unfold manyN at hm;omega),cond_false]
   rfl
  |succ j=>
   rw[mnI_eq,ltI_t (by unfold manyN at hm;omega),cond_true]
   refine bind_step (lockStep_ok l h (by omega)) ?_
   show (bif !mayL l then _ else _)=_
   cases hst:mayL l with
   |false=>
    rw[runL_f hst,stepGetL_f hst,Bool.not_false,cond_true];rfl
   |true=>
    rw[runL_t hst,stepGetL_t hst,Bool.not_true,cond_false]
    obtain ⟨a,_,_,d⟩:=stepL_P h hst
    have ih:=implLockRun_loop n k (i+1) j (stepL l) a (by omega) (by omega) (by omega)
    have ew:wI ((i:Int)+1)=((i+1:Nat):Int):=by rw[wI_id (by omega) (by omega)];omega
    rw[show i+1+(runL j (stepL l)).2=i+((runL j (stepL l)).2+1) by omega,←ew]at ih
    obtain ⟨g1,g2⟩:=stepL_img l
    show _=some (Sum.inl (((i+((runL j (stepL l)).2+1):Nat):Int),()),((runL j (stepL l)).1.t,()))
    generalize runL j (stepL l)=z at ih⊢
    generalize stepL l=l' at ih g1 g2⊢
    obtain ⟨img,pads,mem,cpu,ppu,apu,pad,nmi,st,fr,sm,rd⟩:=l'
    have g1:img=l.img:=g1
    have g2:pads=l.pads:=g2
    subst g1 g2
    exact ih
def lockRunA (l:LockM) (n:Int):Tup lockL×Int:=if lockOkM l then ((runL (manyN n) l).1.t,((runL (manyN n) l).2:Int))else (lock0,0)
theorem implLockRun_a (l:LockM) (n:Int) (hs:lockOkS l.t) (hr:l.reads.length≤1048576):r25 (l.t,(n,()))=some (((lockRunA l n).1,((lockRunA l n).2,())),()):=by
 have hb:=manyN_le n
 unfold r25 m25 lockRunA
 refine bind_step (implLockOk_ok l hs) ?_
 show (bif !lockOkM l then _ else _)=_
 cases ho:lockOkM l with
 |false=>rfl
 |true=>
  have h:=lockOkM_iff.1 ho
  rw[Bool.not_true,cond_false,if_pos rfl]
  refine bind_step (copyLock_t l hs) ?_
  have k:=implLockRun_loop n fuel 0 (manyN n) l h (by omega) (by have:=fuel_big;omega) (by omega)
  simp only[Int.natCast_zero,Nat.zero_add]at k
  refine bind_step k ?_
  obtain ⟨g1,g2⟩:=runL_img (manyN n) l
  generalize runL (manyN n) l=d at g1 g2⊢
  obtain ⟨⟨img,pads,mem,cpu,ppu,apu,pad,nmi,st,fr,sm,rd⟩,m⟩:=d
  have g1:img=l.img:=g1
  have g2:pads=l.pads:=g2
  subst g1 g2
  rfl
def newMem:MemM:=⟨List.replicate 512 0,0⟩
def newCpu (f:List (List Int)):CpuM:=⟨0,0,255,vecN f newMem 65532,false,false,false,true⟩
def newL (f:List (List Int)) (p:List Int):LockM:=⟨f,p,newMem,newCpu f,⟨0,0,0,0,0,false,List.replicate 16 0,[]⟩,⟨0,0,0,0,0,false,false⟩,⟨false,0⟩,false,0,[],[],[]⟩
theorem newMem_P {f:List (List Int)} (h:ImgP f):MemP f newMem:=
 ⟨h,⟨by show (List.replicate 512 (0:Int)).length=512;exact List.length_replicate,fun n hn=>by have:=List.eq_of_mem_replicate hn;omega⟩,by show (0:Int)≤0;decide,by have:=h.lo;show (0:Int)< (f.length:Int);omega⟩
theorem newPpu_P:PpuP ⟨0,0,0,0,0,false,List.replicate 16 0,[]⟩:=
 ⟨by decide,by decide,by decide,by decide,by decide,by decide,fun n hn=>by have:=List.eq_of_mem_replicate hn;omega,by decide,fun n hn=>by cases hn⟩
theorem newApu_P:ApuP ⟨0,0,0,0,0,false,false⟩:=⟨by decide,by decide,by decide,by decide,by decide⟩
theorem newCpu_P (f:List (List Int)):CpuP (newCpu f):=
 ⟨by show (0:Int)≤0∧(0:Int)≤255;decide,by show (0:Int)≤0∧(0:Int)≤255;decide,by show (0:Int)≤255∧(255:Int)≤255;decide,vecN_b _ _ _⟩
theorem newL_P {f:List (List Int)} {p:List Int} (h:ImgP f) (hp:PadsP p):LockP (newL f p):=
 ⟨newMem_P h,hp,newCpu_P f,newPpu_P,newApu_P,by show (0:Int)≤0∧(0:Int)≤255;decide,rfl,by show (0:Int)≤0;decide,by show (0:Int)≤0;decide,(fun l hl=>by cases hl),
  by show ((0:Nat):Int)=framesN 0;decide,by show ((0:Nat):Int)=0/16;decide⟩
theorem implCpuNew_ok (f:List (List Int)) (h:ImgP f):r81 ((f,()),())=some (((newCpu f).t,()),()):=by
 have hm:=newMem_P h
 have k1:=implPeek_ok f newMem 65532 hm
 have k2:=implPeek_ok f newMem 65533 hm
 unfold r81 m81
 refine bind_step (y:=((newMem.t,()),())) rfl ?_
 have kv:r147 ((f,()),(newMem.t,((65532:Int),())))=some ((vecN f newMem 65532,()),()):=by
  unfold r147 m147
  exact bind_step k1 (bind_step k2 (bind_step (implJoin_ok (peekT f newMem 65532,(peekT f newMem 65533,()))) rfl))
 exact bind_step kv rfl
theorem specCpuNew_ok (f:List (List Int)) (h:ImgP f):r103 ((f,()),())=some (((newCpu f).t,()),()):=by
 have hm:=newMem_P h
 have k1:=specPeek_ok f newMem 65532 hm
 have k2:=specPeek_ok f newMem 65533 hm
 unfold r103 m103
 refine bind_step (y:=((newMem.t,()),())) rfl ?_
 exact bind_step k1 (bind_step k2 (bind_step (specJoin_ok (peekT f newMem 65532,(peekT f newMem 65533,()))) rfl))
theorem implLockNew_ok (f:List (List Int)) (p:List Int) (h:ImgP f) (hp:PadsP p):r24 ((f,()),(p,()))=some (((newL f p).t,(true,())),()):=by
 have hP:=newL_P h hp
 have hs:=lock_sizes hP (by show 0≤_;omega)
 have hl:=hp.len
 unfold r24 m24
 refine bind_step (copyImage_ok f h.small) (bind_step (copyInts_ok p (by omega)) (bind_step (y:=((newMem.t,()),())) rfl (bind_step (implCpuNew_ok f h) (bind_step (y:=(((newL f p).ppu.t,()),())) rfl (bind_step (implLockOk_ok (newL f p) hs) ?_)))))
 show (bif !lockOkM (newL f p)then _ else _)=_
 rw[lockOkM_iff.2 hP,Bool.not_true,cond_false]
 rfl
def fewM (s:SplitM):Bool:=splitOk s.t&&leI s.steps 3000
def twinA (s:SplitM):Tup lockL:=if fewM s then (lockRunA (newL s.img s.pads) s.steps).1 else lock0
theorem mayJudge_ok (s:SplitM) (hs:splitOkS s.t):r73 (s.t,())=some ((fewM s,()),()):=by
 unfold r73 m73 fewM
 refine bind_step (implSplitOk_ok s.t hs) ?_
 show (bif splitOk s.t then _ else _)=_
 cases splitOk s.t<;>rfl
theorem implTwin_ok (s:SplitM) (hs:splitOkS s.t):r17 (s.t,())=some ((twinA s,()),()):=by
 unfold r17 m17 twinA
 refine bind_step (mayJudge_ok s hs) ?_
 show (bif !fewM s then _ else _)=_
 cases hf:fewM s with
 |false=>rfl
 |true=>
  have hf2:=hf
  unfold fewM at hf2
  rw[Bool.and_eq_true]at hf2
  have h:=splitOk_iff.1 hf2.1
  have hP:=newL_P h.mem.img h.pads
  have hz:lockOkS (newL s.img s.pads).t:=lock_sizes hP (by show 0≤_;omega)
  rw[Bool.not_true,cond_false,if_pos rfl]
  exact bind_step (implLockNew_ok s.img s.pads h.mem.img h.pads) (bind_step (implLockRun_a (newL s.img s.pads) s.steps hz (by show 0≤_;omega)) rfl)
def seenA (s:SplitM):Bool:=fewM s&&obsBeg (obsOf s.t) (lkObs (twinA s))
theorem obs_small {s:SplitM} (hs:splitOkS s.t):obsOk (obsOf s.t):=by
 obtain ⟨h1,h2,h3,h4,h5,h6⟩:=hs
 exact ⟨h5.2.2,h6.2,h4⟩
theorem implJudgeSeen_ok (s:SplitM) (hs:splitOkS s.t):r22 (s.t,())=some ((seenA s,()),()):=by
 unfold r22 m22 seenA
 refine bind_step (mayJudge_ok s hs) ?_
 show (bif fewM s then _ else _)=_
 cases fewM s with
 |false=>rfl
 |true=>exact bind_step (implObsOf_ok s.t hs) (bind_step (implTwin_ok s hs) (bind_step (implBegins_ok (obsOf s.t) (lkObs (twinA s)) (obs_small hs)) rfl))
theorem asLock_small {s:Tup splitL} (h:splitOkS s):lockOkS (asLock s):=by
 obtain ⟨h1,h2,h3,h4,h5,h6⟩:=h
 unfold asLock
 split
 ·exact ⟨h1,h2,h3,h5.1,h5.2.2,h6.2,h4⟩
 ·exact ⟨⟨by decide,(fun l hl=>by cases hl),by decide⟩,by decide,by decide,⟨by decide,by decide⟩,⟨by decide,(fun l hl=>by cases hl),by decide⟩,by decide,by decide⟩
def judgeLevelA (s:SplitM):Bool:=fewM s&&lockEq (asLock (levelA s).t) (twinA s)
theorem implJudgeLevel_ok (s:SplitM) (hs:splitOkS s.t) (hr:Room s):r28 (s.t,())=some ((judgeLevelA s,()),()):=by
 obtain ⟨ls,lr⟩:=levelA_S hs hr
 unfold r28 m28 judgeLevelA
 refine bind_step (mayJudge_ok s hs) ?_
 show (bif fewM s then _ else _)=_
 cases fewM s with
 |false=>rfl
 |true=>exact bind_step (implLevel_a s hs hr) (bind_step (implAsLock_ok (levelA s).t ls) (bind_step (implTwin_ok s hs) (bind_step (implLockSame_ok (asLock (levelA s).t) (twinA s) (asLock_small ls)) rfl)))
def cpuJ (s:SplitM) (g:Tup lockL):Bool:=cpuEq s.cpu.t (lkCpu g)&&(padEq s.pad.t (lkPad g)&&((s.nmi==g.2.2.2.2.2.2.2.2.2.2.2.2.2.2.2.2.2.2.2.2.2.2.2.2.2.2.2.2.2.1)&&(eqI s.T (lkPpu g).1&&(memEq s.mem.t (lkMem g)&&decide (s.reads=(lkObs g).2.2.1)))))
def judgeCpuA (s:SplitM):Bool:=fewM s&&cpuJ s (twinA s)
theorem implJudgeCpu_ok (s:SplitM) (hs:splitOkS s.t):r21 (s.t,())=some ((judgeCpuA s,()),()):=by
 have hm:s.mem.t.1.length≤4398046511104:=hs.2.2.1
 have hrd:s.reads.length≤4398046511104:=hs.2.2.2.1
 unfold r21 m21 judgeCpuA
 refine bind_step (mayJudge_ok s hs) ?_
 show (bif !fewM s then _ else _)=_
 cases fewM s with
 |false=>rfl
 |true=>
 rw[Bool.not_true,cond_false,Bool.true_and]
 refine bind_step (implTwin_ok s hs) ?_
 generalize twinA s=g
 have k1:=memSame_ok s.mem.t (lkMem g) hm
 have k2:=equal_ok s.reads (lkObs g).2.2.1 hrd
 unfold cpuJ
 show (bif cpuEq s.cpu.t (lkCpu g)then (bif padEq s.pad.t (lkPad g)then (bif s.nmi==g.2.2.2.2.2.2.2.2.2.2.2.2.2.2.2.2.2.2.2.2.2.2.2.2.2.2.2.2.2.1 then (bif eqI s.T (lkPpu g).1 then _ else _)else _)else _)else _)=_
 cases cpuEq s.cpu.t (lkCpu g)with
 |false=>rfl
 |true=>
 cases padEq s.pad.t (lkPad g)with
 |false=>rfl
 |true=>
 cases s.nmi==g.2.2.2.2.2.2.2.2.2.2.2.2.2.2.2.2.2.2.2.2.2.2.2.2.2.2.2.2.2.1 with
 |false=>rfl
 |true=>
 cases eqI s.T (lkPpu g).1 with
 |false=>rfl
 |true=>
 rw[cond_true,cond_true,cond_true,cond_true,Bool.true_and,Bool.true_and,Bool.true_and,Bool.true_and]
 refine bind_step k1 ?_
 show (bif memEq s.mem.t (lkMem g)then _ else _)=_
 cases memEq s.mem.t (lkMem g)with
 |false=>rfl
 |true=>exact bind_step k2 rfl
def judgeAllA (s:SplitM):Bool:=judgeCpuA s&&(seenA s&&(judgeLevelA s&&aliveA s))
theorem implJudgeAll_ok (s:SplitM) (hs:splitOkS s.t) (hr:Room s):r47 (s.t,())=some ((judgeAllA s,()),()):=by
 unfold r47 m47 judgeAllA
 refine bind_step (implJudgeCpu_ok s hs) ?_
 show (bif judgeCpuA s then _ else _)=_
 cases judgeCpuA s with
 |false=>rfl
 |true=>
 refine bind_step (implJudgeSeen_ok s hs) ?_
 show (bif seenA s then _ else _)=_
 cases seenA s with
 |false=>rfl
 |true=>
 refine bind_step (implJudgeLevel_ok s hs hr) ?_
 show (bif judgeLevelA s then _ else _)=_
 cases judgeLevelA s with
 |false=>rfl
 |true=>exact bind_step (implJudgeAlive_a s hs hr) rfl

end Go.Proofs.YtgpifihakjdfeaaGreat.Plain
