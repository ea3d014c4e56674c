/- Plain laws of the printed functions: StepI, StepJ, PlayI, FairI. No condition beyond those that each lemma states. -/
import Derived.Test.YtgeodknaigdenaaGreatPC
set_option linter.unusedVariables false
set_option linter.unusedSimpArgs false
namespace Go.Proofs.YtgeodknaigdenaaGreat.Plain
open Go Go.Tev
def Room (s:SplitM):Prop:=s.reads.length≤4398046511000
theorem l15Know_ok (s:SplitM) (b:Bool):r234 (s.t,(b,()))=some (((knowS s b).t,()),()):=rfl
theorem l15Read_ok (s:SplitM) (a:Int) (h:SplitP s) (hr:Room s):r235 (s.t,(a,()))=some (((readS s a).t,(readSV s a,())),()):=by
 unfold Room at hr
 have hl:leN (s.reads.length+1) (E.most .i)=true:=leN_t (by simp only[E.most];omega)
 unfold r235 m235 readS readSV
 refine bind_step (specRegion_ok (a,())) ?_
 show (bif eqI (rgT a).1 2 then _ else bif eqI (rgT a).1 3 then _ else bif eqI (rgT a).1 4 then _ else _)=_
 by_cases c2:(rgT a).1=2
 ·rw[eqI_t c2,if_pos c2,if_pos c2,cond_true]
  refine bind_step (specPpuRead_ok s.pic.ppu h.pic.ppu (rgT a).2) ?_
  show (bif leN (s.reads.length+1) (E.most .i)then _ else none)=_
  rw[hl];rfl
 rw[eqI_f c2,if_neg c2,if_neg c2,cond_false]
 by_cases c3:(rgT a).1=3
 ·rw[eqI_t c3,if_pos c3,if_pos c3,cond_true]
  refine bind_step (specApuRead_ok s.snd.apu h.snd.apu (rgT a).2) ?_
  show (bif eqI (rgT a).2 2 then _ else _)=_
  by_cases a2:(rgT a).2=2
  ·rw[eqI_t a2,if_pos a2,cond_true]
   refine bind_step (l15Know_ok {s with snd:={s.snd with apu:=readA s.snd.apu (rgT a).2}} false) ?_
   show (bif leN (s.reads.length+1) (E.most .i)then _ else none)=_
   rw[hl];rfl
  ·rw[eqI_f a2,if_neg a2]
   show (bif leN (s.reads.length+1) (E.most .i)then _ else none)=_
   rw[hl];rfl
 rw[eqI_f c3,if_neg c3,if_neg c3,cond_false]
 by_cases c4:(rgT a).1=4
 ·rw[eqI_t c4,if_pos c4,if_pos c4,cond_true]
  refine bind_step (specPadRead_ok s.pad s.pads s.T h.pads h.t) ?_
  show (bif leN (s.reads.length+1) (E.most .i)then _ else none)=_
  rw[hl];rfl
 rw[eqI_f c4,if_neg c4,if_neg c4,cond_false]
 exact bind_step (specPeek1_ok s.img s.mem a h.mem) rfl
theorem lists_small {s:SplitM} (h:SplitP s):s.pic.list.length≤16∧s.snd.list.length≤16:=by
 have h1:=h.pic.ring.len
 have h2:=h.pic.ring.c1
 have h3:=h.snd.ring.len
 have h4:=h.snd.ring.c1
 omega
theorem l15Write_ok (s:SplitM) (a v:Int) (h:SplitP s) (hv:0≤v∧v≤255):r236 (s.t,(a,(v,())))=some (((writeS s a v).t,()),()):=by
 obtain ⟨l1,l2⟩:=lists_small h
 have hl1:leN (s.pic.list.length+1) (E.most .t)=true:=leN_t (by simp only[E.most];omega)
 have hl2:leN (s.snd.list.length+1) (E.most .t)=true:=leN_t (by simp only[E.most];omega)
 unfold r236 m236 writeS
 refine bind_step (specRegion_ok (a,())) ?_
 show (bif eqI (rgT a).1 2 then _ else bif eqI (rgT a).1 3 then _ else bif eqI (rgT a).1 4 then _ else _)=_
 by_cases c2:(rgT a).1=2
 ·rw[eqI_t c2,if_pos c2]
  show (bif leN (s.pic.list.length+1) (E.most .t)then (bif eqI (rgT a).2 0 then _ else _)else none)=_
  rw[hl1]
  by_cases a0:(rgT a).2=0
  ·rw[eqI_t a0,if_pos a0];rfl
  ·rw[eqI_f a0,if_neg a0];rfl
 rw[eqI_f c2,if_neg c2,cond_false]
 by_cases c3:(rgT a).1=3
 ·rw[eqI_t c3,if_pos c3]
  show (bif leN (s.snd.list.length+1) (E.most .t)then (bif eqI (rgT a).2 3 then _ else bif eqI (rgT a).2 2 then (bif eqI (Int.tmod v 2) 0 then _ else _)else _)else none)=_
  rw[hl2,cond_true,tmod_nn hv.1]
  have kn:=l15Know_ok {s with snd:={s.snd with list:=s.snd.list++[(s.T,((rgT a).2,v))]}} false
  by_cases a3:(rgT a).2=3
  ·rw[eqI_t a3,if_pos (.inl a3),cond_true]
   exact bind_step kn rfl
  rw[eqI_f a3,cond_false]
  by_cases a2:(rgT a).2=2
  ·rw[eqI_t a2]
   by_cases v2:v%2=0
   ·rw[cond_true,eqI_t v2,if_pos (.inr ⟨a2,v2⟩),cond_true]
    exact bind_step kn rfl
   ·rw[eqI_f v2,if_neg (by omega)];rfl
  ·rw[eqI_f a2,if_neg (by omega)];rfl
 rw[eqI_f c3,if_neg c3,cond_false]
 by_cases c4:(rgT a).1=4
 ·rw[eqI_t c4,if_pos c4,cond_true]
  exact bind_step (specPadWrite_ok s.pad s.pads s.T v h.pads h.t) rfl
 rw[eqI_f c4,if_neg c4,cond_false]
 exact bind_step (specPoke_ok s.img s.mem a v h.mem) rfl
structure SameRows (s s':SplitM):Prop where
 img:s'.img=s.img
 pads:s'.pads=s.pads
 table:s'.pic.ppu.table=s.pic.ppu.table
 dots:s'.pic.ppu.dots=s.pic.ppu.dots
 frames:s'.pic.frames=s.pic.frames
 samples:s'.snd.samples=s.snd.samples
theorem SameRows.trans {a b c:SplitM} (h:SameRows a b) (k:SameRows b c):SameRows a c:=⟨k.img.trans h.img,k.pads.trans h.pads,k.table.trans h.table,k.dots.trans h.dots,k.frames.trans h.frames,k.samples.trans h.samples⟩
theorem beat_self (t:Int):beatN t t=false:=decide_eq_false (by omega)
theorem ask_learn (s:SplitM) (hn:s.nmi=false):askM (learnS s)=((learnS s).known&& !s.cpu.i):=by
 unfold learnS
 cases hm:mustM s with
 |true=>
  rw[if_pos rfl]
  unfold askM knowS
  rw[show beatN s.T s.T=false from beat_self _]
  rfl
 |false=>
  rw[if_neg (by simp)]
  unfold mustM at hm
  rw[hn]at hm
  unfold askM
  cases hi:s.cpu.i with
  |true=>simp
  |false=>
   rw[hi]at hm
   have hb:beatN s.knownAt s.T=false:=by simpa using hm
   rw[hb];rfl
theorem ready_of {s:SplitM} (h:SplitP s) (hw:waitM s=0) (hn:s.nmi=false) (ha:askM s=false):ReadyP (learnS s):=by
 have hL:=learnS_P h
 obtain ⟨e1,e2,e3,e4,e5,e6,e7,e8,e9,e10⟩:=learnS_same s
 have eop:opS (learnS s)=opS s:=by unfold opS;rw[e1,e2,e3]
 have earg:argS (learnS s)=argS s:=by unfold argS;rw[e1,e2,e3]
 have eadr:adrS (learnS s)=adrS s:=by unfold adrS;rw[eop,earg,e3]
 unfold waitM at hw
 rw[hn,if_neg (by simp)]at hw
 split at hw
 ·omega
 rw[if_neg (by rw[ha];simp)]at hw
 split at hw
 ·omega
 split at hw
 ·omega
 split at hw
 ·omega
 rename_i h3
 split at hw
 ·omega
 rename_i h4
 exact ⟨hL,fun a b=>by rw[eop]at a;rw[eadr]at b;rw[e4];rcases Int.lt_or_le (s.pic.list.length:Int) s.pic.cap with h5|h5;exact h5;exact absurd ⟨a,b,h5⟩ h3,
  fun a b=>by rw[eop]at a;rw[eadr]at b;rw[e5];rcases Int.lt_or_le (s.snd.list.length:Int) s.snd.cap with h5|h5;exact h5;exact absurd ⟨a,b,h5⟩ h4⟩
theorem specOpTail (s:SplitM) (h:ReadyP s) (hr:Room s):((r210 ((s.img,()),(s.mem.t,(s.cpu.pc,())))).bind fun r0=>(r211 (r0.1.1,(s.cpu.t,()))).bind fun r1=>
  bif eqI r1.1.1 1 then (r235 (s.t,(r1.1.2.1,()))).bind (fun r2=>(r237 ((r2.1.1.2.2.1,(r2.1.1.2.2.2.1,())),((r2.1.1.2.2.2.2.1,(r2.1.1.2.2.2.2.2.1,(r2.1.1.2.2.2.2.2.2.1,(r2.1.1.2.2.2.2.2.2.2.1,(r2.1.1.2.2.2.2.2.2.2.2.1,(r2.1.1.2.2.2.2.2.2.2.2.2.1,(r2.1.1.2.2.2.2.2.2.2.2.2.2.1,(r2.1.1.2.2.2.2.2.2.2.2.2.2.2.1,())))))))),(r0.1.1,(r2.1.2.1,()))))).bind fun r3=>
    (r213 (r0.1.1.1,())).bind fun r4=>some ((((r2.1.1.1,(r2.1.1.2.1,(r3.1.1.1,(r3.1.1.2.1,(r3.1.2.1.1,(r3.1.2.1.2.1,(r3.1.2.1.2.2.1,(r3.1.2.1.2.2.2.1,(r3.1.2.1.2.2.2.2.1,(r3.1.2.1.2.2.2.2.2.1,(r3.1.2.1.2.2.2.2.2.2.1,(r3.1.2.1.2.2.2.2.2.2.2.1,r2.1.1.2.2.2.2.2.2.2.2.2.2.2.2)))))))))))),r4.1),())))
  else bif eqI r1.1.1 2 then (r236 (s.t,r1.1.2)).bind (fun r2=>(r237 ((r2.1.1.2.2.1,(r2.1.1.2.2.2.1,())),((r2.1.1.2.2.2.2.1,(r2.1.1.2.2.2.2.2.1,(r2.1.1.2.2.2.2.2.2.1,(r2.1.1.2.2.2.2.2.2.2.1,(r2.1.1.2.2.2.2.2.2.2.2.1,(r2.1.1.2.2.2.2.2.2.2.2.2.1,(r2.1.1.2.2.2.2.2.2.2.2.2.2.1,(r2.1.1.2.2.2.2.2.2.2.2.2.2.2.1,())))))))),(r0.1.1,((0:Int),()))))).bind fun r3=>
    (r213 (r0.1.1.1,())).bind fun r4=>some ((((r2.1.1.1,(r2.1.1.2.1,(r3.1.1.1,(r3.1.1.2.1,(r3.1.2.1.1,(r3.1.2.1.2.1,(r3.1.2.1.2.2.1,(r3.1.2.1.2.2.2.1,(r3.1.2.1.2.2.2.2.1,(r3.1.2.1.2.2.2.2.2.1,(r3.1.2.1.2.2.2.2.2.2.1,(r3.1.2.1.2.2.2.2.2.2.2.1,r2.1.1.2.2.2.2.2.2.2.2.2.2.2.2)))))))))))),r4.1),())))
  else (r237 (s.mem.t,(s.cpu.t,(r0.1.1,((0:Int),()))))).bind fun r3=>
    (r213 (r0.1.1.1,())).bind fun r4=>some ((((s.img,(s.pads,(r3.1.1.1,(r3.1.1.2.1,(r3.1.2.1.1,(r3.1.2.1.2.1,(r3.1.2.1.2.2.1,(r3.1.2.1.2.2.2.1,(r3.1.2.1.2.2.2.2.1,(r3.1.2.1.2.2.2.2.2.1,(r3.1.2.1.2.2.2.2.2.2.1,(r3.1.2.1.2.2.2.2.2.2.2.1,s.t.2.2.2.2.2.2.2.2.2.2.2.2)))))))))))),r4.1),())))=some (((opDo s).t,(opCycN (opS s),())),()):=by
 have hp:=h.p
 unfold opDo
 refine bind_step (specFetch_ok s.img s.mem s.cpu.pc hp.mem hp.cpu.pc) (bind_step (specAccess_ok (opS s) (argS s) s.cpu hp.cpu (arg_b hp)) ?_)
 show (bif eqI (opAccN (opS s)) 1 then _ else bif eqI (opAccN (opS s)) 2 then _ else _)=_
 by_cases o1:opAccN (opS s)=1
 ·rw[eqI_t o1,if_pos o1,cond_true]
  refine bind_step (l15Read_ok s (adrS s) hp hr) ?_
  have hq:=readS_P hp (adrS s)
  exact bind_step (specExec_ok (readS s (adrS s)).mem (readS s (adrS s)).cpu (opS s) (argS s) (readSV s (adrS s)) hq.mem.ram hq.cpu) (bind_step (specOpCycles_ok (opS s,())) rfl)
 rw[eqI_f o1,if_neg o1,cond_false]
 by_cases o2:opAccN (opS s)=2
 ·rw[eqI_t o2,if_pos o2,cond_true]
  have ev:accV (opS s) s.cpu.a=s.cpu.a%256:=by unfold accV;rw[if_pos o2]
  have kw:=l15Write_ok s (adrS s) (s.cpu.a%256) hp (mod256 _)
  rw[←ev]at kw
  refine bind_step kw ?_
  rw[ev]
  have hq:=writeS_P hp (mod256 s.cpu.a) (h.room o2) (h.room' o2)
  exact bind_step (specExec_ok (writeS s (adrS s) (s.cpu.a%256)).mem (writeS s (adrS s) (s.cpu.a%256)).cpu (opS s) (argS s) 0 hq.mem.ram hq.cpu) (bind_step (specOpCycles_ok (opS s,())) rfl)
 ·rw[eqI_f o2,if_neg o2,cond_false]
  exact bind_step (specExec_ok s.mem s.cpu (opS s) (argS s) 0 hp.mem.ram hp.cpu) (bind_step (specOpCycles_ok (opS s,())) rfl)
theorem l15Do_ok (s:SplitM) (h:SplitP s) (hr:Room s) (hw:waitM s=0):r160 (s.t,())=some (((doneS (learnS s)).1.t,((doneS (learnS s)).2,())),()):=by
 unfold r160 m160
 show (bif s.nmi then _ else bif !s.cpu.i then _ else _)=_
 cases hn:s.nmi with
 |true=>
  have hl:learnS s=s:=by unfold learnS mustM;rw[hn];rfl
  rw[hl,cond_true]
  unfold doneS
  rw[hn,if_pos rfl]
  exact bind_step (specEnter_ok s.img s.mem s.cpu 65530 h.mem h.cpu (by decide)) rfl
 |false=>
  rw[cond_false]
  have ea:=ask_learn s hn
  cases hi:s.cpu.i with
  |true=>
   have hm:mustM s=false:=by unfold mustM;rw[hi];simp
   have hl:learnS s=s:=by unfold learnS;rw[hm,if_neg (by simp)]
   rw[hl]at ea⊢
   unfold doneS
   rw[hn,if_neg (by simp),hi,show (s.known&& !true)=false by simp,if_neg (by simp),show (!true)=false from rfl,cond_false]
   have ha:askM s=false:=by rw[ea,hi];simp
   have hq:=ready_of h hw hn ha
   rw[hl]at hq
   exact specOpTail s hq hr
  |false=>
   rw[show (!false)=true from rfl,cond_true]
   refine bind_step (specBeatIn_ok _ _ (known_b h) h.t) ?_
   show (bif beatN s.knownAt s.T then _ else _)=_
   cases hb:beatN s.knownAt s.T with
   |true=>
    have hm:mustM s=true:=by unfold mustM;rw[hn,hi,hb];rfl
    have hl:learnS s=knowS s s.snd.apu.irq:=by unfold learnS;rw[hm,if_pos rfl]
    have hL:SplitP (knowS s s.snd.apu.irq):=hl▸learnS_P h
    rw[hl]at ea⊢
    rw[cond_true]
    refine bind_step (l15Know_ok s s.snd.apu.irq) ?_
    show (bif s.snd.apu.irq then _ else _)=_
    unfold doneS
    rw[show (knowS s s.snd.apu.irq).nmi=false from hn,if_neg (by simp),show (knowS s s.snd.apu.irq).cpu.i=false from hi,show ((knowS s s.snd.apu.irq).known&& !false)=s.snd.apu.irq by simp[knowS]]
    cases hk:s.snd.apu.irq with
    |true=>
     rw[cond_true,if_pos rfl]
     exact bind_step (specEnter_ok s.img s.mem s.cpu 65534 h.mem h.cpu (by decide)) rfl
    |false=>
     rw[cond_false,if_neg (by simp)]
     rw[hk]at hl hL ea
     have ha:askM s=false:=by unfold askM;rw[hb,if_pos rfl,hk];rfl
     have hq:=ready_of h hw hn ha
     rw[hl]at hq
     exact specOpTail (knowS s false) hq hr
   |false=>
    have hm:mustM s=false:=by unfold mustM;rw[hn,hi,hb];rfl
    have hl:learnS s=s:=by unfold learnS;rw[hm,if_neg (by simp)]
    rw[hl]at ea⊢
    rw[cond_false]
    show (bif s.known then _ else _)=_
    unfold doneS
    rw[hn,if_neg (by simp),hi,show (s.known&& !false)=s.known by simp]
    cases hk:s.known with
    |true=>
     rw[cond_true,if_pos rfl]
     exact bind_step (specEnter_ok s.img s.mem s.cpu 65534 h.mem h.cpu (by decide)) rfl
    |false=>
     rw[cond_false,if_neg (by simp)]
     have ha:askM s=false:=by rw[ea,hk];rfl
     have hq:=ready_of h hw hn ha
     rw[hl]at hq
     exact specOpTail s hq hr
theorem l15Copy_ok (s:SplitM) (h:SplitP s) (hr:Room s):r130 (s.t,())=some ((s.t,()),()):=by
 unfold Room at hr
 have h4:=h.mem.ram.len
 have h5:=h.pads.len
 have l1:leN (0+s.pads.length) (E.most .i)=true:=leN_t (by simp only[E.most];omega)
 have l2:leN (0+s.reads.length) (E.most .i)=true:=leN_t (by simp only[E.most];omega)
 unfold r130 m130
 refine bind_step (l12Image_ok s.img h.mem.img.small) ?_
 show (bif leN (0+s.pads.length) (E.most .i)then _ else none)=_
 rw[l1,cond_true]
 refine bind_step (l6Copy_t s.mem h4) ?_
 show (bif leN (0+s.reads.length) (E.most .i)then _ else none)=_
 rw[l2,cond_true]
 exact bind_step (l14Picture_ok s.pic h.pic) (bind_step (l14Sound_ok s.snd h.snd) rfl)
theorem specSplitOk_t (s:SplitM) (h:SplitP s) (hr:Room s):r29 (s.t,())=some ((true,()),()):=by
 rw[specSplitOk_ok s.t (h.s (by unfold Room at hr;omega)),splitOk_iff.2 h]
def stepGet (s:SplitM):SplitM:=if waitM s=0 then stepS s else s
def stepIs (s:SplitM):Bool:=decide (waitM s=0)
theorem specCpuStep_ok (s:SplitM) (h:SplitP s) (hr:Room s):r52 (s.t,())=some (((stepGet s).t,(stepIs s,())),()):=by
 have ht:=h.t
 have hst:=h.steps
 unfold r52 m52 stepGet stepIs
 refine bind_step (specSplitOk_t s h hr) (bind_step (l15Wait_ok s h) ?_)
 show (bif neI (waitM s) 0 then _ else _)=_
 by_cases hw:waitM s=0
 ·rw[neI_f hw,cond_false,if_pos hw,decide_eq_true hw]
  refine bind_step (l15Copy_ok s h hr) (bind_step (l15Do_ok s h hr hw) ?_)
  unfold stepS endS
  obtain ⟨p,hstep,_,h5,h6,_⟩:=stepS_P h hw
  have p:=p.t
  have e1:(stepS s).T=s.T+(doneS (learnS s)).2:=rfl
  rw[e1]at p h5 h6
  have w1:wI (s.T+(doneS (learnS s)).2)=s.T+(doneS (learnS s)).2:=wI_id (by omega) (by omega)
  have w2:wI (s.steps+1)=s.steps+1:=wI_id (by omega) (by omega)
  have e2:(doneS (learnS s)).1.steps=s.steps:=by
   have e3:(doneS (learnS s)).1.steps+1=s.steps+1:=hstep
   omega
  rw[e2]
  have kb:=specBlankIn_ok s.T (s.T+(doneS (learnS s)).2) ht p
  rw[←w1]at kb
  generalize doneS (learnS s)=d at w1 kb e2⊢
  show (bif ltI 127 d.1.ctrl then (r161 (s.T,(wI (s.T+d.2),()))).bind (fun r=>some (((({d.1 with T:=wI (s.T+d.2),nmi:=r.1.1,steps:=wI (s.steps+1)}:SplitM).t,(true,())),()):(Tup splitL×Bool×Unit)×Unit))
   else some ((({d.1 with T:=wI (s.T+d.2),nmi:=false,steps:=wI (s.steps+1)}:SplitM).t,(true,())),()))=_
  rw[kb,w1,w2]
  cases ltI 127 d.1.ctrl<;>rfl
 ·rw[neI_t hw,cond_true,if_neg hw,decide_eq_false hw]
  exact bind_step (l15Copy_ok s h hr) rfl
def pickGet (s:SplitM) (who:Int):SplitM:=(pickM s who).getD s
def pickIs (s:SplitM) (who:Int):Bool:=(pickM s who).isSome
theorem pick_0 (s:SplitM):pickGet s 0=stepGet s∧pickIs s 0=stepIs s:=by
 unfold pickGet pickIs pickM stepGet stepIs
 rw[if_pos rfl]
 by_cases hw:waitM s=0
 ·rw[if_pos hw,if_pos hw,decide_eq_true hw];exact ⟨rfl,rfl⟩
 ·rw[if_neg hw,if_neg hw,decide_eq_false hw];exact ⟨rfl,rfl⟩
theorem pick_1 (s:SplitM):pickGet s 1={s with pic:=(stepPic s.pic s.T).getD s.pic}∧pickIs s 1=(stepPic s.pic s.T).isSome:=by
 unfold pickGet pickIs pickM
 rw[if_neg (by decide),if_pos rfl]
 cases stepPic s.pic s.T<;>exact ⟨rfl,rfl⟩
theorem pick_2 (s:SplitM):pickGet s 2={s with snd:=(stepSnd s.snd s.T).getD s.snd}∧pickIs s 2=(stepSnd s.snd s.T).isSome:=by
 unfold pickGet pickIs pickM
 rw[if_neg (by decide),if_neg (by decide),if_pos rfl]
 cases stepSnd s.snd s.T<;>exact ⟨rfl,rfl⟩
theorem pick_x (s:SplitM) {who:Int} (h0:who≠0) (h1:who≠1) (h2:who≠2):pickGet s who=s∧pickIs s who=false:=by
 unfold pickGet pickIs pickM
 rw[if_neg h0,if_neg h1,if_neg h2]
 exact ⟨rfl,rfl⟩
theorem pickGet_P {s:SplitM} (h:SplitP s) (who:Int):SplitP (pickGet s who)∧(pickGet s who).reads.length≤s.reads.length+1:=by
 unfold pickGet
 cases hp:pickM s who with
 |none=>exact ⟨h,Nat.le_succ _⟩
 |some v=>exact pickM_P h hp
theorem sizes_of {s:SplitM} (h:SplitP s) (hr:Room s):splitOkS s.t:=h.s (by unfold Room at hr;omega)
theorem specPick_ok (s:SplitM) (who:Int) (h:SplitP s) (hr:Room s):r60 (s.t,(who,()))=some (((pickGet s who).t,(pickIs s who,())),()):=by
 unfold r60 m60
 refine bind_step (specSplitOk_t s h hr) (bind_step (l15Copy_ok s h hr) ?_)
 show (bif eqI who 0 then _ else bif eqI who 1 then _ else bif eqI who 2 then _ else _)=_
 by_cases c0:who=0
 ·subst c0
  rw[(pick_0 s).1,(pick_0 s).2,eqI_t rfl,cond_true]
  exact bind_step (specCpuStep_ok s h hr) rfl
 rw[eqI_f c0,cond_false]
 by_cases c1:who=1
 ·subst c1
  rw[(pick_1 s).1,(pick_1 s).2,eqI_t rfl,cond_true]
  exact bind_step (l14Pic_ok s.pic s.T h.pic) rfl
 rw[eqI_f c1,cond_false]
 by_cases c2:who=2
 ·subst c2
  rw[(pick_2 s).1,(pick_2 s).2,eqI_t rfl,cond_true]
  exact bind_step (l14Snd_ok s.snd s.T h.snd) rfl
 ·rw[eqI_f c2,cond_false,(pick_x s c0 c1 c2).1,(pick_x s c0 c1 c2).2]
def levelA (s:SplitM):SplitM:=if splitOk s.t then levelM s else s
theorem l15Copy_a (s:SplitM) (hs:splitOkS s.t) (hr:Room s):r130 (s.t,())=some ((s.t,()),()):=by
 unfold Room at hr
 obtain ⟨h1,h2,h3,h4,h5,h6⟩:=hs
 have h2:s.pads.length≤4398046511104:=h2
 have h3:s.mem.t.1.length≤4398046511104:=h3
 have h62:s.snd.samples.length≤4398046511104:=h6.2
 have l1:leN (0+s.pads.length) (E.most .i)=true:=leN_t (by simp only[E.most];omega)
 have l2:leN (0+s.reads.length) (E.most .i)=true:=leN_t (by simp only[E.most];omega)
 have kp:r197 (s.pic.t,())=some ((s.pic.t,()),()):=by
  unfold r197 m197
  exact bind_step (l8Copy_ok s.pic.ppu.t h5.1) (bind_step (l13Copy_ok (s.pic.cap,(s.pic.list,())) h5.2.1) (bind_step (l12List_ok s.pic.frames h5.2.2) rfl))
 have ks:r198 (s.snd.t,())=some ((s.snd.t,()),()):=by
  unfold r198 m198
  refine bind_step (l13Copy_ok (s.snd.cap,(s.snd.list,())) h6.1) ?_
  show (bif leN (0+s.snd.samples.length) (E.most .i)then _ else none)=_
  rw[leN_t (by simp only[E.most];omega)]
  rfl
 unfold r130 m130
 refine bind_step (l12Image_ok s.img h1) ?_
 show (bif leN (0+s.pads.length) (E.most .i)then _ else none)=_
 rw[l1,cond_true]
 refine bind_step (l6Copy_ok s.mem.t h3) ?_
 show (bif leN (0+s.reads.length) (E.most .i)then _ else none)=_
 rw[l2,cond_true]
 exact bind_step kp (bind_step ks rfl)
theorem specLevel_a (s:SplitM) (hs:splitOkS s.t) (hr:Room s):r33 (s.t,())=some (((levelA s).t,()),()):=by
 unfold r33 m33 levelA
 refine bind_step (l15Copy_a s hs hr) (bind_step (specSplitOk_ok s.t hs) ?_)
 show (bif !splitOk s.t then _ else _)=_
 cases ho:splitOk s.t with
 |true=>
  have h:=splitOk_iff.1 ho
  exact bind_step (specPictureCatch_ok s.pic s.T h.pic) (bind_step (specSoundCatch_ok s.snd s.T h.snd) rfl)
 |false=>rfl
theorem levelA_S {s:SplitM} (hs:splitOkS s.t) (hr:Room s):splitOkS (levelA s).t∧Room (levelA s):=by
 unfold levelA
 cases ho:splitOk s.t with
 |false=>exact ⟨hs,hr⟩
 |true=>exact ⟨sizes_of (levelM_P (splitOk_iff.1 ho)).1 hr,hr⟩

end Go.Proofs.YtgeodknaigdenaaGreat.Plain
