/- Plain laws of the printed functions: LockI, LockJ, LockK, LockL, TwinI. No condition beyond those that each lemma states. -/
import Derived.Test.YtgpifihakjdfeaaGreatPD
set_option linter.unusedVariables false
set_option linter.unusedSimpArgs false
namespace Go.Proofs.YtgpifihakjdfeaaGreat.Plain
open Go Go.Tev
theorem l12Read_ok (l:LockM) (a:Int) (h:LockP l) (hr:l.reads.length≤4398046511000):r108 (l.t,(a,()))=some (((readL l a).t,(readLV l a,())),()):=by
 have hl:leN (l.reads.length+1) (E.most .i)=true:=leN_t (by simp only[E.most];omega)
 unfold r108 m108 readL readLV
 refine bind_step (specRegion_ok (a,())) ?_
 show (bif eqI (rgT a).1 2 then _ else bif eqI (rgT a).1 3 then _ else bif eqI (rgT a).1 4 then _ else _)=_
 by_cases c2:(rgT a).1=2
 ·rw[eqI_t c2,if_pos c2,if_pos c2,cond_true]
  refine bind_step (specPpuRead_ok l.ppu h.ppu (rgT a).2) ?_
  show (bif leN (l.reads.length+1) (E.most .i)then _ else none)=_
  rw[hl];rfl
 rw[eqI_f c2,if_neg c2,if_neg c2,cond_false]
 by_cases c3:(rgT a).1=3
 ·rw[eqI_t c3,if_pos c3,if_pos c3,cond_true]
  refine bind_step (specApuRead_ok l.apu h.apu (rgT a).2) ?_
  show (bif leN (l.reads.length+1) (E.most .i)then _ else none)=_
  rw[hl];rfl
 rw[eqI_f c3,if_neg c3,if_neg c3,cond_false]
 by_cases c4:(rgT a).1=4
 ·rw[eqI_t c4,if_pos c4,if_pos c4,cond_true]
  refine bind_step (specPadRead_ok l.pad l.pads l.ppu.T h.pads h.ppu.t) ?_
  show (bif leN (l.reads.length+1) (E.most .i)then _ else none)=_
  rw[hl];rfl
 rw[eqI_f c4,if_neg c4,if_neg c4,cond_false]
 exact bind_step (specPeek1_ok l.img l.mem a h.mem) rfl
theorem l12Write_any (l:LockM) (a v:Int) (h:LockP l):r120 (l.t,(a,(v,())))=some (((writeL l a v).t,()),()):=by
 unfold r120 m120 writeL
 refine bind_step (specRegion_ok (a,())) ?_
 show (bif eqI (rgT a).1 2 then _ else bif eqI (rgT a).1 3 then _ else bif eqI (rgT a).1 4 then _ else _)=_
 by_cases c2:(rgT a).1=2
 ·rw[eqI_t c2,if_pos c2,cond_true]
  exact bind_step (specPpuWrite_ok l.ppu h.ppu (rgT a).2 v) rfl
 rw[eqI_f c2,if_neg c2,cond_false]
 by_cases c3:(rgT a).1=3
 ·rw[eqI_t c3,if_pos c3,cond_true]
  exact bind_step (specApuWrite_ok l.apu h.apu (rgT a).2 v) rfl
 rw[eqI_f c3,if_neg c3,cond_false]
 by_cases c4:(rgT a).1=4
 ·rw[eqI_t c4,if_pos c4,cond_true]
  exact bind_step (specPadWrite_ok l.pad l.pads l.ppu.T v h.pads h.ppu.t) rfl
 rw[eqI_f c4,if_neg c4,cond_false]
 exact bind_step (specPoke_ok l.img l.mem a v h.mem) rfl
theorem l12Write_ok (l:LockM) (a v:Int) (h:LockP l) (_:0≤v∧v≤255):r120 (l.t,(a,(v,())))=some (((writeL l a v).t,()),()):=l12Write_any l a v h
theorem tick_room {l:LockM} (h:LockP l):leN (l.frames.length+1) (E.most .n)=true∧leN (l.samples.length+1) (E.most .i)=true:=by
 have h1:=h.frn
 have h2:=h.sam
 have h3:=h.ppu.t
 unfold framesN at h1
 exact ⟨leN_t (by simp only[E.most];omega),leN_t (by simp only[E.most];omega)⟩
theorem l12Tick_ok (l:LockM) (h:LockP l) (ht:l.ppu.T<20000):r253 (l.t,())=some (((tickL l).t,()),()):=by
 obtain ⟨hf,hs⟩:=tick_room h
 have kp:=l8Tick_ok l.ppu h.ppu ht
 have ka:=l10Tick_ok l.apu h.apu (by rw[h.t];exact ht)
 have eb:eqI (Int.tmod l.ppu.T 64) 48=toldP l.ppu:=by rw[tmod_nn h.ppu.t.1];rfl
 unfold r253 m253
 refine bind_step kp (bind_step ka ?_)
 clear kp ka h ht
 unfold tickL
 obtain ⟨img,pads,mem,cpu,ppu,apu,pad,nmi,steps,frames,samples,reads⟩:=l
 dsimp only at hf hs eb⊢
 show (bif eqI (Int.tmod ppu.T 64) 48 then (bif leN (frames.length+1) (E.most .n)then (bif toldA apu then (bif leN (samples.length+1) (E.most .i)then (bif nmi then _ else _)else none)else bif nmi then _ else _)else none)else bif toldA apu then (bif leN (samples.length+1) (E.most .i)then (bif nmi then _ else _)else none)else bif nmi then _ else _)=_
 rw[eb,hf,hs]
 generalize toldP ppu=b
 generalize toldA apu=b2
 cases b<;>cases b2<;>cases nmi<;>rfl
theorem l12Ticks_loop (c:Int) (hc:c≤7): ∀(d k:Nat) (i:Int) (l:LockM),0≤i→i+d=c→d<k→LockP l→l.ppu.T+d≤20000→
  n214_0 r252 r253 k (c,()) (l.t,()) (i,())=some (Sum.inl (c,()),((ticksL d l).t,()))
 |_,0,_,_,_,_,h,_,_=>absurd h (by omega)
 |0,k+1,i,l,h0,hi,_,_,_=>by
  show (bif ltI i c then _ else some (Sum.inl (i,()),(l.t,())))=_
  rw[ltI_f (by omega),cond_false,show i=c by omega];rfl
 |d+1,k+1,i,l,h0,hi,hk,h,ht=>by
  show (bif ltI i c then (r253 (l.t,())).bind _ else _)=_
  rw[ltI_t (by omega),cond_true]
  refine bind_step (l12Tick_ok l h (by omega)) ?_
  have e:wI (i+1)=i+1:=wI_id (by omega) (by omega)
  have ih:=l12Ticks_loop c hc d k (i+1) (tickL l) (by omega) (by omega) (by omega) (tickL_P h (by omega)) (by rw[tickL_t];omega)
  rw[←e]at ih
  exact ih
theorem l12Ticks (m:LockM) (c:Int) (hc:2≤c∧c≤7) (h:LockP m) (ht:m.ppu.T+c≤20000):L214_0 (c,()) (m.t,()) (0,())=some (Sum.inl (c,()),((ticksL c.toNat m).t,())):=
 l12Ticks_loop c hc.2 c.toNat fuel 0 m (by omega) (by omega) (by have:=fuel_big;omega) h (by omega)
def stepGetL (l:LockM):LockM:=if mayL l then stepL l else l
theorem steps_wI {m:LockM} {n:Nat} (h:LockP m) (ht:m.ppu.T+n≤20000):wI ((ticksL n m).steps+1)=(ticksL n m).steps+1:=by
 obtain ⟨a,b,c,d⟩:=ticksL_P h ht
 have:=a.s0
 have:=a.s1
 exact wI_id (by omega) (by omega)
def lockOkM (l:LockM):Bool:=memOk l.img l.mem.t&&(padsOk l.pads&&(cpuOk l.cpu.t&&(ppuOk l.ppu.t&&(apuOk l.apu.t&&(inR 0 255 l.pad.t.2.1&&(eqI l.apu.T l.ppu.T&&(inR 0 l.ppu.T l.steps&&(framesOk l.frames l.ppu.T&&samplesOk l.samples l.ppu.T))))))))
theorem lockOkM_iff {l:LockM}:lockOkM l=true↔LockP l:=by
 unfold lockOkM
 simp only[Bool.and_eq_true]
 constructor
 ·rintro ⟨a,b,c,d,e,f,g,h,i,j⟩
  have d:=ppuOk_iff.1 d
  obtain ⟨i1,i2⟩:=(framesOk_iff d.t.1).1 i
  have h:=inR_iff.1 h
  exact ⟨memOk_iff.1 a,padsOk_iff.1 b,cpuOk_iff.1 c,d,apuOk_iff.1 e,inR_iff.1 f,eqI_iff.1 g,h.1,h.2,i1,i2,(samplesOk_iff d.t.1).1 j⟩
 ·rintro ⟨a,b,c,d,e,f,g,h0,h1,i1,i2,j⟩
  exact ⟨memOk_iff.2 a,padsOk_iff.2 b,cpuOk_iff.2 c,ppuOk_iff.2 d,apuOk_iff.2 e,inR_iff.2 f,eqI_iff.2 g,inR_iff.2 ⟨h0,h1⟩,(framesOk_iff d.t.1).2 ⟨i1,i2⟩,(samplesOk_iff d.t.1).2 j⟩
theorem specLockOk_ok (l:LockM) (hs:lockOkS l.t):r43 (l.t,())=some ((lockOkM l,()),()):=by
 obtain ⟨h1,h2,h3,h4,⟨h5,_,_⟩,h6,h7⟩:=hs
 have h2:l.pads.length≤4398046511104:=h2
 unfold r43 m43 lockOkM
 rw[Bool.and_left_comm (memOk l.img l.mem.t)]
 refine bind_step (specPadsOk_ok l.pads (by omega)) ?_
 show (bif padsOk l.pads then _ else _)=_
 cases padsOk l.pads with
 |false=>rfl
 |true=>
 rw[cond_true,Bool.true_and]
 refine bind_step (specMemOk_ok l.img l.mem.t h1 h3) ?_
 show (bif memOk l.img l.mem.t then _ else _)=_
 cases memOk l.img l.mem.t with
 |false=>rfl
 |true=>
 rw[cond_true,Bool.true_and]
 refine bind_step (specCpuOk_ok l.cpu.t) ?_
 show (bif cpuOk l.cpu.t then _ else _)=_
 cases cpuOk l.cpu.t with
 |false=>rfl
 |true=>
 rw[cond_true,Bool.true_and]
 refine bind_step (specPpuOk_ok l.ppu.t h4) ?_
 show (bif ppuOk l.ppu.t then _ else _)=_
 cases e:ppuOk l.ppu.t with
 |false=>rfl
 |true=>
 have hT:=(ppuOk_iff.1 e).t
 rw[cond_true,Bool.true_and]
 refine bind_step (specApuOk_ok l.apu.t) ?_
 show (bif apuOk l.apu.t then _ else _)=_
 cases apuOk l.apu.t with
 |false=>rfl
 |true=>
 rw[cond_true,Bool.true_and]
 refine bind_step (l5Byte_ok (l.pad.t.2.1,())) ?_
 show (bif inR 0 255 l.pad.t.2.1 then _ else _)=_
 cases inR 0 255 l.pad.t.2.1 with
 |false=>rfl
 |true=>
 rw[cond_true,Bool.true_and]
 show (bif eqI l.ppu.T l.apu.T then _ else _)=_
 rw[show eqI l.ppu.T l.apu.T=eqI l.apu.T l.ppu.T by by_cases e:l.ppu.T=l.apu.T;rw[eqI_t e,eqI_t e.symm];rw[eqI_f e,eqI_f (Ne.symm e)]]
 cases eqI l.apu.T l.ppu.T with
 |false=>rfl
 |true=>
 rw[cond_true,Bool.true_and]
 refine bind_step (l1In_ok (l.steps,(0,(l.ppu.T,())))) ?_
 show (bif inR 0 l.ppu.T l.steps then _ else _)=_
 cases inR 0 l.ppu.T l.steps with
 |false=>rfl
 |true=>
 rw[cond_true,Bool.true_and]
 refine bind_step (specFramesOk_ok l.frames l.ppu.T h5 hT.1 hT.2) ?_
 show (bif framesOk l.frames l.ppu.T then _ else _)=_
 cases framesOk l.frames l.ppu.T with
 |false=>rfl
 |true=>
 rw[cond_true,Bool.true_and]
 show some ((eqI (l.samples.length:Int) (wI (Int.tdiv l.ppu.T 16)),()),())=_
 unfold samplesOk
 rw[wI_id (by rw[tdiv_nn hT.1];omega) (by rw[tdiv_nn hT.1];omega)]
theorem l12Copy_t (l:LockM) (hs:lockOkS l.t):r94 (l.t,())=some ((l.t,()),()):=by
 obtain ⟨h1,h2,h3,h4,h5,h6,h7⟩:=hs
 have h2:l.pads.length≤4398046511104:=h2
 have h6:l.samples.length≤4398046511104:=h6
 have h7:l.reads.length≤4398046511104:=h7
 unfold r94 m94
 refine bind_step (l12Image_ok l.img h1) ?_
 show (bif leN (0+l.pads.length) (E.most .i)then _ else none)=_
 rw[leN_t (show 0+l.pads.length≤E.most .i by simp only[E.most];omega),cond_true]
 refine bind_step (l6Copy_ok l.mem.t h3) (bind_step (l8Copy_ok l.ppu.t h4) (bind_step (l12List_ok l.frames h5) ?_))
 show (bif leN (0+l.samples.length) (E.most .i)then (bif leN (0+l.reads.length) (E.most .i)then _ else none)else none)=_
 rw[leN_t (show 0+l.samples.length≤E.most .i by simp only[E.most];omega),cond_true,leN_t (show 0+l.reads.length≤E.most .i by simp only[E.most];omega),cond_true]
 rfl
theorem l12Do_ok (l:LockM) (h:LockP l) (hr:l.reads.length≤4398046511000):r252 (l.t,())=some (((doL l).t,(cyclesL l,())),()):=by
 have kf:=specFetch_ok l.img l.mem l.cpu.pc h.mem h.cpu.pc
 have kc:=specOpCycles_ok (fetchOp l,())
 have ka:=specAccess_ok (fetchOp l) (fetchArg l) l.cpu h.cpu (argT_b h.mem _)
 unfold r252 m252
 show (bif l.nmi then _ else bif l.apu.irq then (bif !l.cpu.i then _ else _)else _)=_
 cases hn:l.nmi with
 |true=>
  have hc:cyclesL l=7:=by unfold cyclesL askedL;rw[hn];rfl
  have hd:doL l=interL {l with nmi:=false} 65530:=by unfold doL;rw[hn];rfl
  rw[cond_true,hc,hd]
  exact bind_step (specEnter_ok l.img l.mem l.cpu 65530 h.mem h.cpu (by omega)) rfl
 |false=>
  rw[cond_false]
  by_cases hq:l.apu.irq=true∧l.cpu.i=false
  ·obtain ⟨hirq,hi⟩:=hq
   have hc:cyclesL l=7:=by unfold cyclesL askedL;rw[hn,hirq,hi];rfl
   have hd:doL l=interL l 65534:=by unfold doL;rw[hn,hirq,hi];rfl
   rw[hirq,cond_true,hi,Bool.not_false,cond_true,hc,hd]
   exact bind_step (specEnter_ok l.img l.mem l.cpu 65534 h.mem h.cpu (by omega)) rfl
  ·have hask:askedL l=false:=by
    unfold askedL
    rw[hn]
    cases h1:l.apu.irq with
    |false=>rfl
    |true=>
     cases h2:l.cpu.i with
     |true=>rfl
     |false=>exact absurd ⟨h1,h2⟩ hq
   have hc:cyclesL l=opCycN (fetchOp l):=by unfold cyclesL;rw[hask];rfl
   have hd:doL l=opL l (fetchOp l) (fetchArg l):=by
    unfold doL
    unfold askedL at hask
    rw[hn,Bool.false_or]at hask
    rw[hn,hask];rfl
   rw[hc,hd]
   have e:(bif l.apu.irq then (bif !l.cpu.i then (0:Nat)else 1)else 1)=1:=by
    cases h1:l.apu.irq with
    |false=>rfl
    |true=>
     cases h2:l.cpu.i with
     |true=>rfl
     |false=>exact absurd ⟨h1,h2⟩ hq
   have pick: ∀{A:Type} (x y:A),(bif l.apu.irq then (bif !l.cpu.i then x else y)else y)=y:=by
    intro A x y
    cases h1:l.apu.irq with
    |false=>rfl
    |true=>
     cases h2:l.cpu.i with
     |true=>rfl
     |false=>exact absurd ⟨h1,h2⟩ hq
   refine (pick _ _).trans ?_
   refine bind_step kf (bind_step ka ?_)
   unfold opL
   show (bif eqI (opAccN (fetchOp l)) 1 then _ else bif eqI (opAccN (fetchOp l)) 2 then _ else _)=_
   by_cases o1:opAccN (fetchOp l)=1
   ·rw[eqI_t o1,if_pos o1,cond_true]
    refine bind_step (l12Read_ok l (accA (fetchOp l) (fetchArg l) l.cpu.x) h hr) ?_
    have hv:=readLV_b h (accA (fetchOp l) (fetchArg l) l.cpu.x)
    have hp:=readL_P h (accA (fetchOp l) (fetchArg l) l.cpu.x)
    generalize readLV l (accA (fetchOp l) (fetchArg l) l.cpu.x)=v at hv⊢
    generalize readL l (accA (fetchOp l) (fetchArg l) l.cpu.x)=l' at hp⊢
    exact bind_step (specExec_ok l'.mem l'.cpu (fetchOp l) (fetchArg l) v hp.mem.ram hp.cpu) (bind_step kc rfl)
   rw[eqI_f o1,if_neg o1,cond_false]
   by_cases o2:opAccN (fetchOp l)=2
   ·rw[eqI_t o2,if_pos o2,cond_true]
    have ev:accV (fetchOp l) l.cpu.a=l.cpu.a%256:=by unfold accV;rw[if_pos o2]
    have kw:=l12Write_ok l (accA (fetchOp l) (fetchArg l) l.cpu.x) (l.cpu.a%256) h (mod256 _)
    rw[←ev]at kw
    refine bind_step kw ?_
    rw[ev]
    have hp:=writeL_P h (accA (fetchOp l) (fetchArg l) l.cpu.x) (l.cpu.a%256)
    generalize writeL l (accA (fetchOp l) (fetchArg l) l.cpu.x) (l.cpu.a%256)=l' at hp⊢
    exact bind_step (specExec_ok l'.mem l'.cpu (fetchOp l) (fetchArg l) 0 hp.mem.ram hp.cpu) (bind_step kc rfl)
   ·rw[eqI_f o2,if_neg o2,cond_false]
    exact bind_step (specExec_ok l.mem l.cpu (fetchOp l) (fetchArg l) 0 h.mem.ram h.cpu) (bind_step kc rfl)
theorem l12Step_ok (l:LockM) (h:LockP l) (hr:l.reads.length≤4398046511000):r214 (l.t,())=some ((if mayL l then (stepL l).t else lock0,(mayL l,())),()):=by
 have hb:=cyclesL_b l
 have hT:=h.ppu.t
 have hP:=doL_P h
 have hdt:=doL_t l
 unfold r214 m214
 refine bind_step (l12Do_ok l h hr) ?_
 show (bif ltI 20000 (wI ((doL l).ppu.T+cyclesL l))then _ else _)=_
 rw[hdt,wI_id (by omega) (by omega)]
 by_cases hm:l.ppu.T+cyclesL l≤20000
 ·have hmay:mayL l=true:=decide_eq_true hm
  rw[ltI_f (by omega),cond_false,hmay,if_pos rfl]
  have hq:(doL l).ppu.T+cyclesL l≤20000:=by rw[hdt];exact hm
  refine bind_step (l12Ticks (doL l) (cyclesL l) hb hP hq) ?_
  have hw:=steps_wI (n:=(cyclesL l).toNat) hP (by omega)
  show _=some ((LockM.t {(ticksL (cyclesL l).toNat (doL l))with steps:=(ticksL (cyclesL l).toNat (doL l)).steps+1},(true,())),())
  rw[←hw]
  rfl
 ·have hmay:mayL l=false:=decide_eq_false hm
  rw[ltI_t (by omega),cond_true,hmay]
  rfl
theorem lock_sizes {l:LockM} (h:LockP l) (hr:l.reads.length≤4398046511000):lockOkS l.t:=h.s (by omega)
theorem specLockStep_ok (l:LockM) (h:LockP l) (hr:l.reads.length≤4398046511000):r159 (l.t,())=some (((stepGetL l).t,(mayL l,())),()):=by
 have hs:=lock_sizes h hr
 unfold r159 m159 stepGetL
 refine bind_step (specLockOk_ok l hs) ?_
 show (bif !lockOkM l then _ else _)=_
 rw[lockOkM_iff.2 h,Bool.not_true,cond_false]
 refine bind_step (l12Copy_t l hs) (bind_step (l12Step_ok l h hr) ?_)
 show (bif mayL l then _ else _)=_
 cases hm:mayL l with
 |true=>rfl
 |false=>
  rw[cond_false]
  exact bind_step (l12Copy_t l hs) rfl
theorem runL_f {j:Nat} {l:LockM} (h:mayL l=false):runL (j+1) l=(l,0):=by
 show (if mayL l then _ else _)=_
 rw[h,if_neg (by simp)]
theorem runL_t {j:Nat} {l:LockM} (h:mayL l=true):runL (j+1) l=((runL j (stepL l)).1,(runL j (stepL l)).2+1):=by
 show (if mayL l then _ else _)=_
 rw[h,if_pos rfl]
theorem stepGetL_t {l:LockM} (h:mayL l=true):stepGetL l=stepL l:=by unfold stepGetL;rw[h,if_pos rfl]
theorem specLockRun_loop (n:Int) (z:Tup lockL): ∀(k i j:Nat) (l:LockM),LockP l→l.reads.length+j≤4398046511000→j<k→manyN n=i+j→
  n95_0 r43 r159 r94 r158 k (n,()) (z,(l.t,())) ((i:Int),())=some (Sum.inl (((i+(runL j l).2:Nat):Int),()),(z,((runL j l).1.t,())))∨
  (∃y,n95_0 r43 r159 r94 r158 k (n,()) (z,(l.t,())) ((i:Int),())=some (Sum.inr (((i+(runL j l).2:Nat):Int),()),((runL j l).1.t,(y,()))))
 |0,_,_,_,_,_,h,_=>absurd h (by omega)
 |k+1,i,j,l,h,hr,hk,hm=>by
  have hb:=manyN_le n
  have e0: ∃D:Tup lockL,n95_0 r43 r159 r94 r158 (k+1) (n,()) (z,(l.t,())) ((i:Int),())=bif ltI (i:Int) (mnI n 3000)then (r159 (l.t,())).bind (fun r1=>
    bif (!r1.1.2.1)then (some ((Sum.inr ((i:Int),())),(l.t,(D,()))))else n95_0 r43 r159 r94 r158 k (n,()) (z,(r1.1.1,())) ((wI ((i:Int)+(1:Int))),()))else some (Sum.inl ((i:Int),()),(z,(l.t,()))):=
   ⟨_,bind_step (l1Min_many n) rfl⟩
  obtain ⟨D,e0⟩:=e0
  rw[e0]
  cases j with
  |zero=>
   rw[mnI_eq,ltI_f (by unfold manyN at hm;omega),cond_false]
   exact .inl rfl
  |succ j=>
   rw[mnI_eq,ltI_t (by unfold manyN at hm;omega),cond_true,specLockStep_ok l h (by omega),Option.bind_some]
   show (bif !mayL l then _ else _)=_∨ ∃y,(bif !mayL l then _ else _)=_
   cases hst:mayL l with
   |false=>
    rw[runL_f hst,Bool.not_false,cond_true]
    exact .inr ⟨D,rfl⟩
   |true=>
    rw[runL_t hst,stepGetL_t hst,Bool.not_true,cond_false]
    obtain ⟨a,_,_,d⟩:=stepL_P h hst
    have ih:=specLockRun_loop n z k (i+1) j (stepL l) a (by omega) (by omega) (by omega)
    have ew:wI ((i:Int)+1)=((i+1:Nat):Int):=by rw[wI_id (by omega) (by omega)];omega
    rw[show i+1+(runL j (stepL l)).2=i+((runL j (stepL l)).2+1) by omega,←ew]at ih
    exact ih
def lockRunA (l:LockM) (n:Int):Tup lockL×Int:=if lockOkM l then ((runL (manyN n) l).1.t,((runL (manyN n) l).2:Int))else (lock0,0)
theorem specLockRun_a (l:LockM) (n:Int) (hs:lockOkS l.t) (hr:l.reads.length≤1048576):r95 (l.t,(n,()))=some (((lockRunA l n).1,((lockRunA l n).2,())),()):=by
 have hb:=manyN_le n
 unfold r95 m95 lockRunA
 refine bind_step (specLockOk_ok l hs) ?_
 show (bif !lockOkM l then _ else _)=_
 cases ho:lockOkM l with
 |false=>rfl
 |true=>
  have h:=lockOkM_iff.1 ho
  rw[Bool.not_true,cond_false,if_pos rfl]
  refine bind_step (l12Copy_t l hs) ?_
  have k:=specLockRun_loop n lock0 fuel 0 (manyN n) l h (by omega) (by have:=fuel_big;omega) (by omega)
  simp only[Int.natCast_zero,Nat.zero_add]at k
  rcases k with k| ⟨y,k⟩
  ·exact bind_step k rfl
  ·exact bind_step k rfl
theorem lock0_ok:lockOkS lock0:=⟨⟨by decide,(fun l hl=>by cases hl),by decide⟩,by decide,by decide,⟨by decide,by decide⟩,⟨by decide,(fun l hl=>by cases hl),by decide⟩,by decide,by decide⟩
theorem lockRunA_S {l:LockM} (hr:l.reads.length≤1048576) (n:Int):lockOkS (lockRunA l n).1:=by
 unfold lockRunA
 split
 ·rename_i ho
  obtain ⟨a,b,c,d⟩:=runL_P (n:=manyN n) (lockOkM_iff.1 ho)
  have:=manyN_le n
  exact a.s (by omega)
 ·exact lock0_ok
def newMem:MemM:=⟨List.replicate 512 0,0⟩
def newCpu (f:List (List Int)):CpuM:=⟨0,0,255,vecN f newMem 65532,false,false,false,true⟩
def newL (f:List (List Int)) (p:List Int):LockM:=⟨f,p,newMem,newCpu f,⟨0,0,0,0,0,false,List.replicate 16 0,[]⟩,⟨0,0,0,0,0,false,false⟩,⟨false,0⟩,false,0,[],[],[]⟩
theorem newMem_P {f:List (List Int)} (h:ImgP f):MemP f newMem:=
 ⟨h,⟨by show (List.replicate 512 (0:Int)).length=512;exact List.length_replicate,fun n hn=>by have:=List.eq_of_mem_replicate hn;omega⟩,by show (0:Int)≤0;decide,by have:=h.lo;show (0:Int)< (f.length:Int);omega⟩
theorem newPpu_P:PpuP ⟨0,0,0,0,0,false,List.replicate 16 0,[]⟩:=
 ⟨by decide,by decide,by decide,by decide,by decide,by decide,fun n hn=>by have:=List.eq_of_mem_replicate hn;omega,by decide,fun n hn=>by cases hn⟩
theorem newApu_P:ApuP ⟨0,0,0,0,0,false,false⟩:=⟨by decide,by decide,by decide,by decide,by decide⟩
theorem newCpu_P (f:List (List Int)):CpuP (newCpu f):=
 ⟨by show (0:Int)≤0∧(0:Int)≤255;decide,by show (0:Int)≤0∧(0:Int)≤255;decide,by show (0:Int)≤255∧(255:Int)≤255;decide,vecN_b _ _ _⟩
theorem newL_P {f:List (List Int)} {p:List Int} (h:ImgP f) (hp:PadsP p):LockP (newL f p):=
 ⟨newMem_P h,hp,newCpu_P f,newPpu_P,newApu_P,by show (0:Int)≤0∧(0:Int)≤255;decide,rfl,by show (0:Int)≤0;decide,by show (0:Int)≤0;decide,(fun l hl=>by cases hl),
  by show ((0:Nat):Int)=framesN 0;decide,by show ((0:Nat):Int)=0/16;decide⟩
theorem specCpuNew_ok (f:List (List Int)) (h:ImgP f):r103 ((f,()),())=some (((newCpu f).t,()),()):=by
 have hm:=newMem_P h
 have k1:=specPeek_ok f newMem 65532 hm
 have k2:=specPeek_ok f newMem 65533 hm
 unfold r103 m103
 refine bind_step (y:=((newMem.t,()),())) rfl ?_
 exact bind_step k1 (bind_step k2 (bind_step (specJoin_ok (peekT f newMem 65532,(peekT f newMem 65533,()))) rfl))
theorem specLockNew_ok (f:List (List Int)) (p:List Int) (h:ImgP f) (hp:PadsP p):r48 ((f,()),(p,()))=some (((newL f p).t,(true,())),()):=by
 have hP:=newL_P h hp
 have hs:=lock_sizes hP (by show 0≤_;omega)
 have hl:=hp.len
 unfold r48 m48
 refine bind_step (l12Image_ok f h.small) ?_
 show (bif leN (0+p.length) (E.most .i)then _ else none)=_
 rw[leN_t (show 0+p.length≤E.most .i by simp only[E.most];omega),cond_true]
 refine bind_step (y:=((newMem.t,()),())) rfl (bind_step (specCpuNew_ok f h) (bind_step (y:=(((newL f p).ppu.t,()),())) rfl (bind_step (specLockOk_ok (newL f p) hs) ?_)))
 show (bif !lockOkM (newL f p)then _ else _)=_
 rw[lockOkM_iff.2 hP,Bool.not_true,cond_false]
 rfl
theorem specLockSame_ok (a b:Tup lockL) (h:lockOkS a) (hb:lockOkS b):r34 (a,(b,()))=some ((lockEq a b,()),()):=by
 unfold r34 m34
 obtain ⟨_,_,h3,h4,h5⟩:=h
 simp only[same_ok (lkMem a).1 (lkMem b).1 h3,specPpu_ok (lkPpu a) (lkPpu b) h4,specSame_ok (lkObs a) (lkObs b) h5 hb.2.2.2.2,Option.bind_some,cond_and]
 show some ((decide ((lkMem a).1=(lkMem b).1)&&(eqI (lkMem a).2.1 (lkMem b).2.1&&(cpuEq (lkCpu a) (lkCpu b)&&(ppuEq (lkPpu a) (lkPpu b)&&(apuEq (lkApu a) (lkApu b)&&(padEq (lkPad a) (lkPad b)&&((a.2.2.2.2.2.2.2.2.2.2.2.2.2.2.2.2.2.2.2.2.2.2.2.2.2.2.2.2.2.1==b.2.2.2.2.2.2.2.2.2.2.2.2.2.2.2.2.2.2.2.2.2.2.2.2.2.2.2.2.2.1)&&
  (eqI a.2.2.2.2.2.2.2.2.2.2.2.2.2.2.2.2.2.2.2.2.2.2.2.2.2.2.2.2.2.2.1 b.2.2.2.2.2.2.2.2.2.2.2.2.2.2.2.2.2.2.2.2.2.2.2.2.2.2.2.2.2.2.1&&obsEq (lkObs a) (lkObs b)))))))),()),())=_
 unfold lockEq memEq
 generalize decide ((lkMem a).1=(lkMem b).1)=x1
 generalize eqI (lkMem a).2.1 (lkMem b).2.1=x2
 generalize cpuEq (lkCpu a) (lkCpu b)=x3
 generalize ppuEq (lkPpu a) (lkPpu b)=x4
 generalize apuEq (lkApu a) (lkApu b)=x5
 generalize padEq (lkPad a) (lkPad b)=x6
 generalize obsEq (lkObs a) (lkObs b)=x7
 cases x1<;>cases x2<;>cases x3<;>cases x4<;>cases x5<;>cases x6<;>simp

end Go.Proofs.YtgpifihakjdfeaaGreat.Plain
