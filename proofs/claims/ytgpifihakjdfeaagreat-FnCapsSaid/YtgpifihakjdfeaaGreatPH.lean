/- Plain laws of the printed functions: Sim, Sim2. No condition beyond those that each lemma states. -/
import Derived.Test.YtgpifihakjdfeaaGreatPE
set_option linter.unusedVariables false
set_option linter.unusedSimpArgs false
namespace Go.Proofs.YtgpifihakjdfeaaGreat.Plain
open Go Go.Tev
theorem stepPic_mono {w v:PicM} {a b:Int} (hab:a≤b) (h:stepPic w a=some v):stepPic w b=some v:=by
 unfold stepPic at h⊢
 split at h
 ·rename_i hd;rw[if_pos hd];exact h
 ·rename_i hd
  rw[if_neg hd]
  split at h
  ·rename_i hm;rw[if_pos ⟨by omega,hm.2⟩];exact h
  ·cases h
theorem stepSnd_mono {w v:SndM} {a b:Int} (hab:a≤b) (h:stepSnd w a=some v):stepSnd w b=some v:=by
 unfold stepSnd at h⊢
 split at h
 ·rename_i hd;rw[if_pos hd];exact h
 ·rename_i hd
  rw[if_neg hd]
  split at h
  ·rename_i hm;rw[if_pos ⟨by omega,hm.2⟩];exact h
  ·cases h
theorem caughtPic_mono {a b:Int} (hab:a≤b): ∀(n:Nat) {w:PicM},leftPic w≤n→PicP w→caughtPic w b=caughtPic (caughtPic w a) b
 |0,w,hn,h=>by
  cases hs:stepPic w a with
  |none=>rw[caughtPic_none hs]
  |some v=>have:=leftPic_lt h hs;omega
 |n+1,w,hn,h=>by
  cases hs:stepPic w a with
  |none=>rw[caughtPic_none hs]
  |some v=>
   rw[caughtPic_some h hs,caughtPic_some h (stepPic_mono hab hs)]
   exact caughtPic_mono hab n (by have:=leftPic_lt h hs;omega) (stepPic_P h hs).1
theorem caughtSnd_mono {a b:Int} (hab:a≤b): ∀(n:Nat) {w:SndM},leftSnd w≤n→SndP w→caughtSnd w b=caughtSnd (caughtSnd w a) b
 |0,w,hn,h=>by
  cases hs:stepSnd w a with
  |none=>rw[caughtSnd_none hs]
  |some v=>have:=leftSnd_lt h hs;omega
 |n+1,w,hn,h=>by
  cases hs:stepSnd w a with
  |none=>rw[caughtSnd_none hs]
  |some v=>
   rw[caughtSnd_some h hs,caughtSnd_some h (stepSnd_mono hab hs)]
   exact caughtSnd_mono hab n (by have:=leftSnd_lt h hs;omega) (stepSnd_P h hs).1
theorem donePic {w:PicM} {m:Int} (h:PicP w) (ht:w.ppu.T≤m) (hm:m≤20000) (hl: ∀x,x∈w.list→x.1≤m) (hs:stepPic w m=none):w.list=[]∧w.ppu.T=m:=by
 unfold stepPic at hs
 split at hs
 ·cases hs
 rename_i hd
 split at hs
 ·cases hs
 have e:w.ppu.T=m:=by omega
 refine ⟨?_,e⟩
 cases hw:w.list with
 |nil=>rfl
 |cons x l=>
  have h1:=hl x (by rw[hw];exact List.mem_cons_self)
  have h2:=h.lo x (by rw[hw];exact List.mem_cons_self)
  exact absurd (show due w.list w.ppu.T=true by rw[hw];exact decide_eq_true (by omega)) hd
theorem doneSnd {w:SndM} {m:Int} (h:SndP w) (ht:w.apu.T≤m) (hm:m≤20000) (hl: ∀x,x∈w.list→x.1≤m) (hs:stepSnd w m=none):w.list=[]∧w.apu.T=m:=by
 unfold stepSnd at hs
 split at hs
 ·cases hs
 rename_i hd
 split at hs
 ·cases hs
 have e:w.apu.T=m:=by omega
 refine ⟨?_,e⟩
 cases hw:w.list with
 |nil=>rfl
 |cons x l=>
  have h1:=hl x (by rw[hw];exact List.mem_cons_self)
  have h2:=h.lo x (by rw[hw];exact List.mem_cons_self)
  exact absurd (show due w.list w.apu.T=true by rw[hw];exact decide_eq_true (by omega)) hd
theorem upPic {w:PicM} {m:Int} (hl:w.list=[]) (ht:m≤w.ppu.T):stepPic w m=none:=by
 unfold stepPic
 rw[if_neg (by rw[hl];simp[due]),if_neg (by omega)]
theorem upSnd {w:SndM} {m:Int} (hl:w.list=[]) (ht:m≤w.apu.T):stepSnd w m=none:=by
 unfold stepSnd
 rw[if_neg (by rw[hl];simp[due]),if_neg (by omega)]
theorem caught_of {s:SplitM} (h:SplitP s):((caughtPic s.pic s.T).list=[]∧(caughtPic s.pic s.T).ppu.T=s.T)∧(caughtSnd s.snd s.T).list=[]∧(caughtSnd s.snd s.T).apu.T=s.T:=by
 obtain ⟨p,a,b⟩:=levelM_P h
 exact ⟨donePic p.pic p.pt p.t.2 p.pl a,doneSnd p.snd p.st p.t.2 p.sl b⟩
def appPic (w:PicM) (x:Rc):PicM:={w with list:=w.list++[x]}
def appSnd (w:SndM) (x:Rc):SndM:={w with list:=w.list++[x]}
theorem stepPic_app {w v:PicM} {m:Int} {x:Rc} (hx:x.1=m) (h:stepPic w m=some v):stepPic (appPic w x) m=some (appPic v x):=by
 obtain ⟨p,cap,l,f⟩:=w
 unfold appPic
 unfold stepPic at h⊢
 cases l with
 |nil=>
  simp only[due,Bool.false_eq_true,if_false]at h
  split at h
  ·rename_i hm
   simp only[Option.some.injEq]at h
   subst h
   simp only[List.nil_append,due]
   rw[if_neg (by simp only[decide_eq_true_eq];omega),if_pos hm]
  ·cases h
 |cons y ys=>
  simp only[List.cons_append,due,headR,List.tail_cons]at h⊢
  split at h
  ·rename_i hd
   simp only[Option.some.injEq]at h
   subst h
   rw[if_pos hd]
  ·rename_i hd
   rw[if_neg hd]
   split at h
   ·rename_i hm
    simp only[Option.some.injEq]at h
    subst h
    rw[if_pos hm]
    rfl
   ·cases h
theorem stepSnd_app {w v:SndM} {m:Int} {x:Rc} (hx:x.1=m) (h:stepSnd w m=some v):stepSnd (appSnd w x) m=some (appSnd v x):=by
 obtain ⟨p,cap,l,f⟩:=w
 unfold appSnd
 unfold stepSnd at h⊢
 cases l with
 |nil=>
  simp only[due,Bool.false_eq_true,if_false]at h
  split at h
  ·rename_i hm
   simp only[Option.some.injEq]at h
   subst h
   simp only[List.nil_append,due]
   rw[if_neg (by simp only[decide_eq_true_eq];omega),if_pos hm]
  ·cases h
 |cons y ys=>
  simp only[List.cons_append,due,headR,List.tail_cons]at h⊢
  split at h
  ·rename_i hd
   simp only[Option.some.injEq]at h
   subst h
   rw[if_pos hd]
  ·rename_i hd
   rw[if_neg hd]
   split at h
   ·rename_i hm
    simp only[Option.some.injEq]at h
    subst h
    rw[if_pos hm]
    rfl
   ·cases h
theorem caughtPic_app {m:Int} {x:Rc} (hx:x.1=m) (hm:m≤20000): ∀(n:Nat) {w:PicM},leftPic w≤n→PicP w→PicP (appPic w x)→w.ppu.T≤m→(∀y,y∈w.list→y.1≤m)→
  caughtPic (appPic w x) m={caughtPic w m with ppu:=writeP (caughtPic w m).ppu x.2.1 x.2.2}:=by
 have none': ∀{w:PicM},PicP w→PicP (appPic w x)→w.ppu.T≤m→(∀y,y∈w.list→y.1≤m)→stepPic w m=none→caughtPic (appPic w x) m={caughtPic w m with ppu:=writeP (caughtPic w m).ppu x.2.1 x.2.2}:=fun {w} h ha ht hl hs=>by
  obtain ⟨e,et⟩:=donePic h ht hm hl hs
  rw[caughtPic_none hs]
  obtain ⟨p,cap,l,f⟩:=w
  have e:l=[]:=e
  have et:p.T=m:=et
  subst e
  have h1:stepPic (appPic ⟨p,cap,[],f⟩ x) m=some ⟨writeP p x.2.1 x.2.2,cap,[],f⟩:=by
   unfold stepPic appPic
   simp only[List.nil_append,due,headR,List.tail_cons]
   rw[if_pos (by simp only[decide_eq_true_eq];omega)]
  rw[caughtPic_some ha h1]
  exact caughtPic_none (upPic rfl (by show m≤(writeP p _ _).T;rw[writeP_t];omega))
 intro n
 induction n with
 |zero=>
  intro w hn h ha ht hl
  cases hs:stepPic w m with
  |none=>exact none' h ha ht hl hs
  |some v=>have:=leftPic_lt h hs;omega
 |succ n ih=>
  intro w hn h ha ht hl
  cases hs:stepPic w m with
  |none=>exact none' h ha ht hl hs
  |some v=>
   have ha':=stepPic_app hx hs
   rw[caughtPic_some h hs,caughtPic_some ha ha']
   obtain ⟨a,b,c,d⟩:=stepPic_P h hs
   exact ih (by have:=leftPic_lt h hs;omega) a (stepPic_P ha ha').1 (by rcases d with d|d<;>omega) fun y hy=>hl y (c y hy)
theorem caughtSnd_app {m:Int} {x:Rc} (hx:x.1=m) (hm:m≤20000): ∀(n:Nat) {w:SndM},leftSnd w≤n→SndP w→SndP (appSnd w x)→w.apu.T≤m→(∀y,y∈w.list→y.1≤m)→
  caughtSnd (appSnd w x) m={caughtSnd w m with apu:=writeA (caughtSnd w m).apu x.2.1 x.2.2}:=by
 have none': ∀{w:SndM},SndP w→SndP (appSnd w x)→w.apu.T≤m→(∀y,y∈w.list→y.1≤m)→stepSnd w m=none→caughtSnd (appSnd w x) m={caughtSnd w m with apu:=writeA (caughtSnd w m).apu x.2.1 x.2.2}:=fun {w} h ha ht hl hs=>by
  obtain ⟨e,et⟩:=doneSnd h ht hm hl hs
  rw[caughtSnd_none hs]
  obtain ⟨p,cap,l,f⟩:=w
  have e:l=[]:=e
  have et:p.T=m:=et
  subst e
  have h1:stepSnd (appSnd ⟨p,cap,[],f⟩ x) m=some ⟨writeA p x.2.1 x.2.2,cap,[],f⟩:=by
   unfold stepSnd appSnd
   simp only[List.nil_append,due,headR,List.tail_cons]
   rw[if_pos (by simp only[decide_eq_true_eq];omega)]
  rw[caughtSnd_some ha h1]
  exact caughtSnd_none (upSnd rfl (by show m≤(writeA p _ _).T;rw[writeA_t];omega))
 intro n
 induction n with
 |zero=>
  intro w hn h ha ht hl
  cases hs:stepSnd w m with
  |none=>exact none' h ha ht hl hs
  |some v=>have:=leftSnd_lt h hs;omega
 |succ n ih=>
  intro w hn h ha ht hl
  cases hs:stepSnd w m with
  |none=>exact none' h ha ht hl hs
  |some v=>
   have ha':=stepSnd_app hx hs
   rw[caughtSnd_some h hs,caughtSnd_some ha ha']
   obtain ⟨a,b,c,d⟩:=stepSnd_P h hs
   exact ih (by have:=leftSnd_lt h hs;omega) a (stepSnd_P ha ha').1 (by rcases d with d|d<;>omega) fun y hy=>hl y (c y hy)
def tickW (w:PicM):PicM:={w with ppu:=tickP w.ppu,frames:=if toldP w.ppu then w.frames++[frameP w.ppu]else w.frames}
def tickU (w:SndM):SndM:={w with apu:=tickA w.apu,samples:=if toldA w.apu then w.samples++[sampleA w.apu]else w.samples}
def ticksW:Nat→PicM→PicM|0,w=>w|n+1,w=>ticksW n (tickW w)
def ticksU:Nat→SndM→SndM|0,w=>w|n+1,w=>ticksU n (tickU w)
theorem tickW_step {w:PicM} {m:Int} (hl:w.list=[]) (ht:w.ppu.T<m) (hm:w.ppu.T<20000):stepPic w m=some (tickW w):=by
 unfold stepPic
 rw[if_neg (by rw[hl];simp[due]),if_pos ⟨ht,hm⟩]
 rfl
theorem tickU_step {w:SndM} {m:Int} (hl:w.list=[]) (ht:w.apu.T<m) (hm:w.apu.T<20000):stepSnd w m=some (tickU w):=by
 unfold stepSnd
 rw[if_neg (by rw[hl];simp[due]),if_pos ⟨ht,hm⟩]
 rfl
theorem caught_ticksW: ∀(n:Nat) {w:PicM},PicP w→w.list=[]→w.ppu.T+n≤20000→caughtPic w (w.ppu.T+n)=ticksW n w
 |0,w,h,hl,ht=>caughtPic_none (upPic hl (by omega))
 |n+1,w,h,hl,ht=>by
  have hs:=tickW_step (w:=w) (m:=w.ppu.T+((n+1:Nat):Int)) hl (by omega) (by omega)
  rw[caughtPic_some h hs]
  have e:(tickW w).ppu.T=w.ppu.T+1:=tickP_t _
  have ih:=caught_ticksW n (stepPic_P h hs).1 (show (tickW w).list=[]from hl) (by rw[e];omega)
  rw[e,show w.ppu.T+1+(n:Int)=w.ppu.T+((n+1:Nat):Int) by omega]at ih
  exact ih
theorem caught_ticksU: ∀(n:Nat) {w:SndM},SndP w→w.list=[]→w.apu.T+n≤20000→caughtSnd w (w.apu.T+n)=ticksU n w
 |0,w,h,hl,ht=>caughtSnd_none (upSnd hl (by omega))
 |n+1,w,h,hl,ht=>by
  have hs:=tickU_step (w:=w) (m:=w.apu.T+((n+1:Nat):Int)) hl (by omega) (by omega)
  rw[caughtSnd_some h hs]
  have e:(tickU w).apu.T=w.apu.T+1:=rfl
  have ih:=caught_ticksU n (stepSnd_P h hs).1 (show (tickU w).list=[]from hl) (by rw[e];omega)
  rw[e,show w.apu.T+1+(n:Int)=w.apu.T+((n+1:Nat):Int) by omega]at ih
  exact ih
theorem ticksL_pic: ∀(n:Nat) (l:LockM) (w:PicM),w.ppu=l.ppu→w.frames=l.frames→(ticksW n w).ppu=(ticksL n l).ppu∧(ticksW n w).frames=(ticksL n l).frames
 |0,_,_,a,b=>⟨a,b⟩
 |n+1,l,w,a,b=>ticksL_pic n (tickL l) (tickW w) (by show tickP w.ppu=tickP l.ppu;rw[a]) (by show (if toldP w.ppu then w.frames++[frameP w.ppu]else w.frames)=(if toldP l.ppu then l.frames++[frameP l.ppu]else l.frames);rw[a,b])
theorem ticksL_snd: ∀(n:Nat) (l:LockM) (w:SndM),w.apu=l.apu→w.samples=l.samples→(ticksU n w).apu=(ticksL n l).apu∧(ticksU n w).samples=(ticksL n l).samples
 |0,_,_,a,b=>⟨a,b⟩
 |n+1,l,w,a,b=>ticksL_snd n (tickL l) (tickU w) (by show tickA w.apu=tickA l.apu;rw[a]) (by show (if toldA w.apu then w.samples++[sampleA w.apu]else w.samples)=(if toldA l.apu then l.samples++[sampleA l.apu]else l.samples);rw[a,b])
theorem tickP_ctrl (p:PpuM):(tickP p).ctrl=p.ctrl:=by
 unfold tickP
 repeat' split
 all_goals rfl
theorem ticksL_rest: ∀(n:Nat) (l:LockM),(ticksL n l).cpu=l.cpu∧(ticksL n l).pad=l.pad∧(ticksL n l).ppu.ctrl=l.ppu.ctrl∧(ticksL n l).steps=l.steps
 |0,_=>⟨rfl,rfl,rfl,rfl⟩
 |n+1,l=>by
  obtain ⟨a,b,c,d⟩:=ticksL_rest n (tickL l)
  exact ⟨a,b,c.trans (tickP_ctrl _),d⟩
theorem ticksL_nmi: ∀(n:Nat) (l:LockM),(ticksL n l).nmi=(l.nmi|| (ltI 127 l.ppu.ctrl&&blankN l.ppu.T (l.ppu.T+n)))
 |0,l=>by
  rw[show blankN l.ppu.T (l.ppu.T+((0:Nat):Int))=false from decide_eq_false (by omega),Bool.and_false,Bool.or_false]
  rfl
 |n+1,l=>by
  show (ticksL n (tickL l)).nmi=_
  rw[ticksL_nmi n (tickL l),show (tickL l).ppu.ctrl=l.ppu.ctrl from tickP_ctrl _,tickL_t,show (tickL l).nmi=(l.nmi|| (decide (l.ppu.T%64=48)&&ltI 127 l.ppu.ctrl))from rfl]
  rw[show blankN l.ppu.T (l.ppu.T+((n+1:Nat):Int))=(decide (l.ppu.T%64=48)||blankN (l.ppu.T+1) (l.ppu.T+1+n)) by unfold blankN;rw[←Bool.decide_or];exact decide_eq_decide.2 (by omega)]
  cases l.nmi<;>cases ltI 127 l.ppu.ctrl<;>cases decide (l.ppu.T%64=48)<;>simp
theorem tickA_irq {a:ApuM} (h:a.T%32≠0):(tickA a).irq=a.irq:=by
 show (beatA (countA a)).irq=a.irq
 have e:(countA a).irq=a.irq∧(countA a).T=a.T:=by
  unfold countA
  repeat' split
  all_goals exact ⟨rfl,rfl⟩
 unfold beatA
 rw[if_neg (by rw[e.2];omega)]
 exact e.1
theorem ticksL_irq: ∀(n:Nat) (l:LockM),beatN l.apu.T (l.apu.T+n)=false→(ticksL n l).apu.irq=l.apu.irq
 |0,l,_=>rfl
 |n+1,l,h=>by
  have h:=of_decide_eq_false h
  show (ticksL n (tickL l)).apu.irq=_
  rw[ticksL_irq n (tickL l) (decide_eq_false (by show¬(l.apu.T+1+31)/32< (l.apu.T+1+n+31)/32;omega))]
  exact tickA_irq (by omega)
def lockOf (s:SplitM):LockM:=⟨s.img,s.pads,s.mem,s.cpu,(caughtPic s.pic s.T).ppu,(caughtSnd s.snd s.T).apu,s.pad,s.nmi,s.steps,(caughtPic s.pic s.T).frames,(caughtSnd s.snd s.T).samples,s.reads⟩
structure SimP (s:SplitM):Prop where
 p:SplitP s
 ctrl:s.ctrl=(caughtPic s.pic s.T).ppu.ctrl
 known:beatN s.knownAt s.T=false→s.known=(caughtSnd s.snd s.T).apu.irq
theorem lockOf_T {s:SplitM} (h:SplitP s):(lockOf s).ppu.T=s.T∧(lockOf s).apu.T=s.T:=⟨(caught_of h).1.2,(caught_of h).2.2⟩
theorem picUp_l {s:SplitM} (h:picUpM s=true):s.pic.list=[]∧s.pic.ppu.T=s.T:=by
 unfold picUpM at h
 rw[Bool.and_eq_true,eqI_iff,eqI_iff]at h
 exact ⟨List.eq_nil_of_length_eq_zero (by omega),h.1⟩
theorem sndUp_l {s:SplitM} (h:sndUpM s=true):s.snd.list=[]∧s.snd.apu.T=s.T:=by
 unfold sndUpM at h
 rw[Bool.and_eq_true,eqI_iff,eqI_iff]at h
 exact ⟨List.eq_nil_of_length_eq_zero (by omega),h.1⟩
theorem picUp_c {s:SplitM} (h:picUpM s=true):caughtPic s.pic s.T=s.pic:=by
 obtain ⟨a,b⟩:=picUp_l h
 exact caughtPic_none (upPic a (by omega))
theorem sndUp_c {s:SplitM} (h:sndUpM s=true):caughtSnd s.snd s.T=s.snd:=by
 obtain ⟨a,b⟩:=sndUp_l h
 exact caughtSnd_none (upSnd a (by omega))
theorem know_sim {s:SplitM} (h:SimP s) {b:Bool} (hb:b=(caughtSnd s.snd s.T).apu.irq):SimP (knowS s b):=by
 obtain ⟨⟨m,ps,c,pc,sd,d,ct,t,kn,st,pt,sdt,pl,sl⟩,hc,hk⟩:=h
 exact ⟨⟨m,ps,c,pc,sd,d,ct,t,⟨t.1,Int.le_refl _⟩,st,pt,sdt,pl,sl⟩,hc,fun _=>hb⟩
theorem learn_sim {s:SplitM} (h:SimP s) (hw:mustM s=true→sndUpM s=true):SimP (learnS s)∧lockOf (learnS s)=lockOf s:=by
 unfold learnS
 cases hm:mustM s with
 |true=>
  rw[if_pos rfl]
  exact ⟨know_sim h (by rw[sndUp_c (hw hm)]),rfl⟩
 |false=>rw[if_neg (by simp)];exact ⟨h,rfl⟩
theorem inter_sim {s:SplitM} (h:SimP s) (v:Int):SimP (interS s v)∧lockOf (interS s v)=interL (lockOf s) v:=⟨⟨interS_P h.p v,h.ctrl,h.known⟩,rfl⟩
theorem exec_sim {s:SplitM} (h:SimP s) (op arg v:Int):SimP (execS s op arg v)∧lockOf (execS s op arg v)=doExec (lockOf s) op arg v:=⟨⟨execS_P h.p op arg v,h.ctrl,h.known⟩,rfl⟩
theorem readP_ctrl (p:PpuM) (r:Int):(readP p r).ctrl=p.ctrl:=by
 unfold readP
 repeat' split
 all_goals rfl
theorem read_sim {s:SplitM} (h:SimP s) (a:Int) (h2:(rgT a).1=2→picUpM s=true) (h3:(rgT a).1=3→sndUpM s=true):
  SimP (readS s a)∧lockOf (readS s a)=readL (lockOf s) a∧readSV s a=readLV (lockOf s) a:=by
 have hP:=readS_P h.p a
 obtain ⟨eT,eU⟩:=lockOf_T h.p
 unfold readS at hP⊢
 unfold readL readSV readLV
 by_cases e2:(rgT a).1=2
 ·simp only[if_pos e2]at hP⊢
  have hc:=picUp_c (h2 e2)
  obtain ⟨hl,ht⟩:=picUp_l (h2 e2)
  have hn:caughtPic {s.pic with ppu:=readP s.pic.ppu (rgT a).2} s.T={s.pic with ppu:=readP s.pic.ppu (rgT a).2}:=caughtPic_none (upPic hl (by show s.T≤(readP _ _).T;rw[readP_t];omega))
  have hct:=h.ctrl
  rw[hc]at hct
  refine ⟨⟨hP,?_,h.known⟩,?_,?_⟩
  ·show s.ctrl=(caughtPic {s.pic with ppu:=readP s.pic.ppu (rgT a).2} s.T).ppu.ctrl
   rw[hn]
   exact hct.trans (readP_ctrl _ _).symm
  ·unfold lockOf
   simp only[hn,hc]
  ·show readPV s.pic.ppu _=readPV (caughtPic s.pic s.T).ppu _
   rw[hc]
 simp only[if_neg e2]at hP⊢
 by_cases e3:(rgT a).1=3
 ·simp only[if_pos e3]at hP⊢
  have hc:=sndUp_c (h3 e3)
  obtain ⟨hl,ht⟩:=sndUp_l (h3 e3)
  have hn:caughtSnd {s.snd with apu:=readA s.snd.apu (rgT a).2} s.T={s.snd with apu:=readA s.snd.apu (rgT a).2}:=caughtSnd_none (upSnd hl (by show s.T≤(readA _ _).T;rw[readA_t];omega))
  have hkn:=h.known
  rw[hc]at hkn
  by_cases e22:(rgT a).2=2
  ·simp only[if_pos e22]at hP⊢
   refine ⟨⟨hP,h.ctrl,fun _=> ?_⟩,?_,?_⟩
   ·show false=(caughtSnd {s.snd with apu:=readA s.snd.apu (rgT a).2} s.T).apu.irq
    rw[hn,e22]
    rfl
   ·unfold lockOf
    simp only[hn,hc]
   ·show readAV s.snd.apu _=readAV (caughtSnd s.snd s.T).apu _
    rw[hc]
  ·simp only[if_neg e22]at hP⊢
   refine ⟨⟨hP,h.ctrl,fun hb=> ?_⟩,?_,?_⟩
   ·show s.known=(caughtSnd {s.snd with apu:=readA s.snd.apu (rgT a).2} s.T).apu.irq
    rw[hn]
    show s.known=(readA s.snd.apu (rgT a).2).irq
    rw[readA,if_neg e22]
    exact hkn hb
   ·unfold lockOf
    simp only[hn,hc]
   ·show readAV s.snd.apu _=readAV (caughtSnd s.snd s.T).apu _
    rw[hc]
 simp only[if_neg e3]at hP⊢
 by_cases e4:(rgT a).1=4
 ·simp only[if_pos e4]at hP⊢
  rw[eT]
  exact ⟨⟨hP,h.ctrl,h.known⟩,rfl,rfl⟩
 ·simp only[if_neg e4]at hP⊢
  exact ⟨h,trivial,rfl⟩
theorem writeP_ctrl (p:PpuM) (r v:Int):(writeP p r v).ctrl=if r=0 then v%256 else p.ctrl:=by
 unfold writeP
 by_cases h:r=0
 ·rw[if_pos h,if_pos h]
 ·rw[if_neg h,if_neg h]
  repeat' split
  all_goals rfl
theorem writeA_irq (a:ApuM) (r v:Int):(writeA a r v).irq=if r=3∨r=2∧v%2=0 then false else a.irq:=by
 unfold writeA
 by_cases h0:r=0
 ·rw[if_pos h0,if_neg (by omega)]
 rw[if_neg h0]
 by_cases h1:r=1
 ·rw[if_pos h1,if_neg (by omega)]
 rw[if_neg h1]
 by_cases h2:r=2
 ·rw[if_pos h2]
  by_cases hv:v%2=0
  ·rw[if_pos (.inr ⟨h2,hv⟩),show eqI ((v%256)%2) 1=false from eqI_f (by omega),Bool.and_false]
  ·rw[if_neg (by omega),show eqI ((v%256)%2) 1=true from eqI_t (by omega),Bool.and_true]
 rw[if_neg h2]
 by_cases h3:r=3
 ·rw[if_pos h3,if_pos (.inl h3)]
 ·rw[if_neg h3,if_neg (by omega)]
theorem write_sim {s:SplitM} (h:SimP s) {a v:Int} (hv:0≤v∧v≤255) (r1:(rgT a).1=2→(s.pic.list.length:Int)<s.pic.cap) (r2:(rgT a).1=3→(s.snd.list.length:Int)<s.snd.cap):
  SimP (writeS s a v)∧lockOf (writeS s a v)=writeL (lockOf s) a v:=by
 have hP:=writeS_P h.p hv r1 r2
 obtain ⟨eT,eU⟩:=lockOf_T h.p
 unfold writeS at hP⊢
 unfold writeL
 by_cases e2:(rgT a).1=2
 ·simp only[if_pos e2]at hP⊢
  have hc:caughtPic {s.pic with list:=s.pic.list++[(s.T,((rgT a).2,v))]} s.T={caughtPic s.pic s.T with ppu:=writeP (caughtPic s.pic s.T).ppu (rgT a).2 v}:=
   caughtPic_app (x:=(s.T,((rgT a).2,v))) rfl h.p.t.2 _ (Nat.le_refl _) h.p.pic hP.pic h.p.pt h.p.pl
  refine ⟨⟨hP,?_,h.known⟩,?_⟩
  ·show (if (rgT a).2=0 then v else s.ctrl)=(caughtPic {s.pic with list:=s.pic.list++[(s.T,((rgT a).2,v))]} s.T).ppu.ctrl
   rw[hc,h.ctrl]
   show _=(writeP _ _ _).ctrl
   rw[writeP_ctrl,show v%256=v by omega]
  ·unfold lockOf
   simp only[hc]
 simp only[if_neg e2]at hP⊢
 by_cases e3:(rgT a).1=3
 ·simp only[if_pos e3]at hP⊢
  by_cases e4:(rgT a).2=3∨(rgT a).2=2∧v%2=0
  ·simp only[if_pos e4]at hP⊢
   have hc:caughtSnd {s.snd with list:=s.snd.list++[(s.T,((rgT a).2,v))]} s.T={caughtSnd s.snd s.T with apu:=writeA (caughtSnd s.snd s.T).apu (rgT a).2 v}:=
    caughtSnd_app (x:=(s.T,((rgT a).2,v))) rfl h.p.t.2 _ (Nat.le_refl _) h.p.snd hP.snd h.p.st h.p.sl
   refine ⟨⟨hP,h.ctrl,fun _=> ?_⟩,?_⟩
   ·show false=(caughtSnd {s.snd with list:=s.snd.list++[(s.T,((rgT a).2,v))]} s.T).apu.irq
    rw[hc]
    show _=(writeA _ _ _).irq
    rw[writeA_irq,if_pos e4]
   ·unfold lockOf
    simp only[hc]
  ·simp only[if_neg e4]at hP⊢
   have hc:caughtSnd {s.snd with list:=s.snd.list++[(s.T,((rgT a).2,v))]} s.T={caughtSnd s.snd s.T with apu:=writeA (caughtSnd s.snd s.T).apu (rgT a).2 v}:=
    caughtSnd_app (x:=(s.T,((rgT a).2,v))) rfl h.p.t.2 _ (Nat.le_refl _) h.p.snd hP.snd h.p.st h.p.sl
   refine ⟨⟨hP,h.ctrl,fun hb=> ?_⟩,?_⟩
   ·show s.known=(caughtSnd {s.snd with list:=s.snd.list++[(s.T,((rgT a).2,v))]} s.T).apu.irq
    rw[hc]
    show _=(writeA _ _ _).irq
    rw[writeA_irq,if_neg e4]
    exact h.known hb
   ·unfold lockOf
    simp only[hc]
 simp only[if_neg e3]at hP⊢
 by_cases e4:(rgT a).1=4
 ·simp only[if_pos e4,eT]at hP⊢
  exact ⟨⟨hP,h.ctrl,h.known⟩,rfl⟩
 ·simp only[if_neg e4]at hP⊢
  exact ⟨⟨hP,h.ctrl,h.known⟩,rfl⟩
theorem lock_ext {a b:LockM} (h1:a.img=b.img) (h2:a.pads=b.pads) (h3:a.mem=b.mem) (h4:a.cpu=b.cpu) (h5:a.ppu=b.ppu) (h6:a.apu=b.apu) (h7:a.pad=b.pad) (h8:a.nmi=b.nmi) (h9:a.steps=b.steps)
  (h10:a.frames=b.frames) (h11:a.samples=b.samples) (h12:a.reads=b.reads):a=b:=by
 cases a
 cases b
 simp only at*
 subst h1 h2 h3 h4 h5 h6 h7 h8 h9 h10 h11 h12
 rfl
theorem end_sim {s:SplitM} {n:Int} (h:SimP s) (hn:s.nmi=false) (n0:0≤n) (ht:s.T+n≤20000) (hP:SplitP (endS s.T (s,n))):
  SimP (endS s.T (s,n))∧lockOf (endS s.T (s,n))={ticksL n.toNat (lockOf s)with steps:=(ticksL n.toNat (lockOf s)).steps+1}:=by
 have hL:=(levelM_P h.p).1
 obtain ⟨⟨c1,c2⟩,c3,c4⟩:=caught_of h.p
 have hn':s.T+n=s.T+(n.toNat:Int):=by omega
 have e1:caughtPic s.pic (s.T+n)=ticksW n.toNat (caughtPic s.pic s.T):=by
  rw[caughtPic_mono (a:=s.T) (by omega) _ (Nat.le_refl _) h.p.pic,hn']
  have:=caught_ticksW n.toNat (w:=caughtPic s.pic s.T) hL.pic c1 (by rw[c2];omega)
  rw[c2]at this
  exact this
 have e2:caughtSnd s.snd (s.T+n)=ticksU n.toNat (caughtSnd s.snd s.T):=by
  rw[caughtSnd_mono (a:=s.T) (by omega) _ (Nat.le_refl _) h.p.snd,hn']
  have:=caught_ticksU n.toNat (w:=caughtSnd s.snd s.T) hL.snd c3 (by rw[c4];omega)
  rw[c4]at this
  exact this
 obtain ⟨p1,p2⟩:=ticksL_pic n.toNat (lockOf s) (caughtPic s.pic s.T) rfl rfl
 obtain ⟨u1,u2⟩:=ticksL_snd n.toNat (lockOf s) (caughtSnd s.snd s.T) rfl rfl
 obtain ⟨q1,q2,q3,q4⟩:=ticksL_rest n.toNat (lockOf s)
 obtain ⟨r1,r2,r3,r4,r5⟩:=ticksL_rows n.toNat (lockOf s)
 have qn:=ticksL_nmi n.toNat (lockOf s)
 rw[show (lockOf s).nmi=s.nmi from rfl,hn,Bool.false_or,show (lockOf s).ppu.T=s.T from c2,←hn',show (lockOf s).ppu.ctrl=s.ctrl from h.ctrl.symm]at qn
 have qi:=ticksL_irq n.toNat (lockOf s)
 rw[show (lockOf s).apu.T=s.T from c4,←hn']at qi
 refine ⟨⟨hP,?_,fun hb=> ?_⟩,lock_ext r1.symm r2.symm r3.symm q1.symm ?_ ?_ q2.symm qn.symm ?_ ?_ ?_ r5.symm⟩
 ·show s.ctrl=(caughtPic s.pic (s.T+n)).ppu.ctrl
  rw[e1,p1,q3]
  exact h.ctrl
 ·have hb:beatN s.knownAt (s.T+n)=false:=hb
  show s.known=(caughtSnd s.snd (s.T+n)).apu.irq
  have h1:=of_decide_eq_false hb
  have hk:=h.p.known
  rw[e2,u1,qi (decide_eq_false (by omega))]
  exact h.known (decide_eq_false (by omega))
 ·show (caughtPic s.pic (s.T+n)).ppu=_
  rw[e1,p1]
 ·show (caughtSnd s.snd (s.T+n)).apu=_
  rw[e2,u1]
 ·show s.steps+1=(ticksL n.toNat (lockOf s)).steps+1
  rw[q4]
  rfl
 ·show (caughtPic s.pic (s.T+n)).frames=_
  rw[e1,p2]
 ·show (caughtSnd s.snd (s.T+n)).samples=_
  rw[e2,u2]
theorem step_sim {s:SplitM} (h:SimP s) (hw:waitM s=0):mayL (lockOf s)=true∧SimP (stepS s)∧lockOf (stepS s)=stepL (lockOf s):=by
 have hPs:=(stepS_P h.p hw).1
 obtain ⟨eT,eU⟩:=lockOf_T h.p
 obtain ⟨e1,e2,e3,e4,e5,e6,e7,e8,e9,e10⟩:=learnS_same s
 have key: ∃s' n,doneS (learnS s)=(s',n)∧SimP s'∧s'.nmi=false∧lockOf s'=doL (lockOf s)∧cyclesL (lockOf s)=n∧s'.T=s.T∧s.T+n≤20000∧0≤n:=by
  have hwt:=hw
  unfold waitM at hw
  unfold doneS
  rw[e7]
  cases hn:s.nmi with
  |true=>
   rw[hn,if_pos rfl]at hw
   rw[if_pos rfl]
   have hm:mustM s=false:=by unfold mustM;rw[hn];rfl
   obtain ⟨L1,L2⟩:=learn_sim h (fun h=>by rw[hm]at h;cases h)
   have L1':SimP {learnS s with nmi:=false}:=⟨⟨L1.p.mem,L1.p.pads,L1.p.cpu,L1.p.pic,L1.p.snd,L1.p.pad,L1.p.ctrl,L1.p.t,L1.p.known,L1.p.steps,L1.p.pt,L1.p.st,L1.p.pl,L1.p.sl⟩,L1.ctrl,L1.known⟩
   obtain ⟨I1,I2⟩:=inter_sim L1' 65530
   refine ⟨_,_,rfl,I1,rfl,?_,?_,e6,overN_zero hw,by omega⟩
   ·rw[I2]
    unfold doL
    rw[show (lockOf s).nmi=true from hn,if_pos rfl,←L2]
    rfl
   ·unfold cyclesL askedL
    rw[show (lockOf s).nmi=true from hn,Bool.true_or,if_pos rfl]
  |false=>
   rw[hn,if_neg (by simp)]at hw
   rw[if_neg (by simp),e3,learn_known s hn]
   have hup:mustM s=true→sndUpM s=true:=fun hm=>by
    cases hu:sndUpM s with
    |true=>rfl
    |false=>rw[hm,hu,Bool.not_false,Bool.and_true,if_pos rfl]at hw;omega
   obtain ⟨L1,L2⟩:=learn_sim h hup
   have hask:askM s=((lockOf s).apu.irq&& !(lockOf s).cpu.i):=by
    unfold askM
    show _=((caughtSnd s.snd s.T).apu.irq&& !s.cpu.i)
    cases hI:s.cpu.i with
    |true=>simp
    |false=>
     rw[Bool.not_false,Bool.and_true,Bool.and_true]
     cases hb:beatN s.knownAt s.T with
     |true=>
      rw[if_pos rfl,sndUp_c (hup (by unfold mustM;rw[hn,hI,hb];rfl))]
     |false=>rw[if_neg (by simp)];exact h.known hb
   rw[if_neg (by
    cases hm:mustM s with
    |true=>rw[hup hm];simp
    |false=>simp)]at hw
   have hnL:(lockOf s).nmi=false:=hn
   have hd:doL (lockOf s)=if askM s=true then interL (lockOf s) 65534 else opL (lockOf s) (opS s) (argS s):=by
    unfold doL
    rw[hnL,if_neg (by simp),←hask]
    rfl
   have hcy:cyclesL (lockOf s)=if askM s=true then 7 else opCycN (opS s):=by
    unfold cyclesL askedL
    rw[hnL,Bool.false_or,←hask]
    rfl
   rw[hd,hcy]
   cases ha:askM s with
   |true=>
    rw[ha,if_pos rfl]at hw
    simp only[if_true,eq_self]
    obtain ⟨I1,I2⟩:=inter_sim L1 65534
    exact ⟨_,_,rfl,I1,e7.trans hn,by rw[I2,L2],rfl,e6,overN_zero hw,by omega⟩
   |false=>
    rw[ha,if_neg (by simp)]at hw
    simp only[Bool.false_eq_true,if_false]
    have eop:opS (learnS s)=opS s:=by unfold opS;rw[e1,e2,e3]
    have earg:argS (learnS s)=argS s:=by unfold argS;rw[e1,e2,e3]
    have eadr:adrS (learnS s)=adrS s:=by unfold adrS;rw[eop,earg,e3]
    have epu:picUpM (learnS s)=picUpM s:=by unfold picUpM;rw[e4,e6]
    have esu:sndUpM (learnS s)=sndUpM s:=by unfold sndUpM;rw[e5,e6]
    have hc:=opCycN_b (opS s)
    refine ⟨_,_,rfl,?_⟩
    unfold opDo
    rw[eop,earg,eadr]
    unfold opL
    have fad:accA (opS s) (argS s) (lockOf s).cpu.x=adrS s:=rfl
    rw[fad]
    split at hw
    ·omega
    rename_i h1
    split at hw
    ·omega
    rename_i h2
    split at hw
    ·omega
    rename_i h3
    split at hw
    ·omega
    rename_i h4
    have hov:=overN_zero hw
    by_cases k1:opAccN (opS s)=1
    ·rw[if_pos k1,if_pos k1]
     obtain ⟨R1,R2,R3⟩:=read_sim L1 (adrS s) (fun e=>by rw[epu];cases hp:picUpM s with|true=>rfl|false=>exact absurd ⟨k1,e,hp⟩ h1) (fun e=>by rw[esu];cases hp:sndUpM s with|true=>rfl|false=>exact absurd ⟨k1,e,hp⟩ h2)
     obtain ⟨X1,X2⟩:=exec_sim R1 (opS s) (argS s) (readSV (learnS s) (adrS s))
     have f:=(readS_f (learnS s) (adrS s)).1
     exact ⟨X1,(show (readS (learnS s) (adrS s)).nmi=false by rw[f.nmi,e7,hn]),by rw[X2,R2,R3,L2],rfl,(show (readS (learnS s) (adrS s)).T=s.T by rw[f.T,e6]),hov,by omega⟩
    ·rw[if_neg k1,if_neg k1]
     by_cases k2:opAccN (opS s)=2
     ·rw[if_pos k2,if_pos k2]
      obtain ⟨R1,R2⟩:=write_sim L1 (a:=adrS s) (v:=(learnS s).cpu.a%256) (mod256 _)
       (fun e=>by rw[e4];rcases Int.lt_or_le (s.pic.list.length:Int) s.pic.cap with h5|h5;exact h5;exact absurd ⟨k2,e,h5⟩ h3)
       (fun e=>by rw[e5];rcases Int.lt_or_le (s.snd.list.length:Int) s.snd.cap with h5|h5;exact h5;exact absurd ⟨k2,e,h5⟩ h4)
      obtain ⟨X1,X2⟩:=exec_sim R1 (opS s) (argS s) 0
      have f:=(writeS_f (learnS s) (adrS s) ((learnS s).cpu.a%256)).1
      exact ⟨X1,(show (writeS (learnS s) (adrS s) _).nmi=false by rw[f.nmi,e7,hn]),by rw[X2,R2,L2,e3];rfl,rfl,(show (writeS (learnS s) (adrS s) _).T=s.T by rw[f.T,e6]),hov,by omega⟩
     ·rw[if_neg k2,if_neg k2]
      obtain ⟨X1,X2⟩:=exec_sim L1 (opS s) (argS s) 0
      exact ⟨X1,(show (learnS s).nmi=false by rw[e7,hn]),by rw[X2,L2],rfl,(show (learnS s).T=s.T from e6),hov,by omega⟩
 obtain ⟨s',n,ed,hs',hn',hl',hc',ht',hle,h0⟩:=key
 have hst:stepS s=endS s'.T (s',n):=by unfold stepS;rw[ed,ht']
 rw[hst]at hPs⊢
 obtain ⟨E1,E2⟩:=end_sim hs' hn' h0 (by omega) hPs
 refine ⟨decide_eq_true (by rw[eT,hc'];exact hle),E1,?_⟩
 rw[E2,hl']
 unfold stepL
 rw[hc']
theorem runL_succ: ∀(n:Nat) (l:LockM),(runL n l).2=n→mayL (runL n l).1=true→runL (n+1) l=(stepL (runL n l).1,n+1)
 |0,l,_,hm=>by rw[runL_t (show mayL l=true from hm)];rfl
 |n+1,l,h,hm=>by
  cases hq:mayL l with
  |false=>rw[runL_f hq]at h;cases h
  |true=>
   rw[runL_t hq]at h hm
   have h:(runL n (stepL l)).2+1=n+1:=h
   rw[runL_t (j:=n+1) hq,runL_t (j:=n) hq,runL_succ n (stepL l) (by omega) hm]
def newS (f:List (List Int)) (p:List Int) (cap:Int):SplitM:=⟨f,p,newMem,newCpu f,⟨false,0⟩,0,false,0,false,0,0,[],⟨⟨0,0,0,0,0,false,List.replicate 16 0,[]⟩,cap,[],[]⟩,⟨⟨0,0,0,0,0,false,false⟩,cap,[],[]⟩⟩
theorem newRing_P {cap:Int} (hc:1≤cap∧cap≤16):RingP cap []:=⟨(fun x hx=>by cases hx),List.Pairwise.nil,hc.1,hc.2,(show (0:Int)≤cap by omega)⟩
theorem newS_P {f:List (List Int)} {p:List Int} {cap:Int} (h:ImgP f) (hp:PadsP p) (hc:1≤cap∧cap≤16):SplitP (newS f p cap):=
 ⟨newMem_P h,hp,newCpu_P f,⟨newPpu_P,newRing_P hc,(fun x hx=>by cases hx),(fun x hx=>by cases hx),by show (0:Int)=framesN 0;decide⟩,
  ⟨newApu_P,newRing_P hc,(fun x hx=>by cases hx),by show (0:Int)=0/16;decide⟩,⟨Int.le_refl _,(by show (0:Int)≤255;decide)⟩,⟨Int.le_refl _,(by show (0:Int)≤255;decide)⟩,⟨Int.le_refl _,(by show (0:Int)≤20000;decide)⟩,
  ⟨Int.le_refl _,Int.le_refl _⟩,⟨Int.le_refl _,Int.le_refl _⟩,Int.le_refl _,Int.le_refl _,(fun x hx=>by cases hx),(fun x hx=>by cases hx)⟩
structure BornP (s:SplitM):Prop where
 sim:SimP s
 run: ∃k:Nat,s.steps=k∧runL k (newL s.img s.pads)=(lockOf s,k)
 time:s.T≤7*s.steps
theorem newS_up (f:List (List Int)) (p:List Int) (cap:Int):caughtPic (newS f p cap).pic 0=(newS f p cap).pic∧caughtSnd (newS f p cap).snd 0=(newS f p cap).snd:=
 ⟨caughtPic_none (upPic rfl (Int.le_refl _)),caughtSnd_none (upSnd rfl (Int.le_refl _))⟩
theorem born_new {f:List (List Int)} {p:List Int} {cap:Int} (h:ImgP f) (hp:PadsP p) (hc:1≤cap∧cap≤16):BornP (newS f p cap):=by
 obtain ⟨a,b⟩:=newS_up f p cap
 have e:lockOf (newS f p cap)=newL f p:=by
  unfold lockOf
  rw[show (newS f p cap).T=0 from rfl,a,b]
  rfl
 refine ⟨⟨newS_P h hp hc,?_,fun _=> ?_⟩,⟨0,rfl,?_⟩,by show (0:Int)≤7*0;decide⟩
 ·rw[show (newS f p cap).T=0 from rfl,a];rfl
 ·rw[show (newS f p cap).T=0 from rfl,b];rfl
 ·rw[e];rfl
theorem level_sim {s:SplitM} (h:SimP s):SimP (levelM s)∧lockOf (levelM s)=lockOf s:=by
 obtain ⟨p,a,b⟩:=levelM_P h.p
 have e1:caughtPic (levelM s).pic (levelM s).T=(levelM s).pic:=caughtPic_none a
 have e2:caughtSnd (levelM s).snd (levelM s).T=(levelM s).snd:=caughtSnd_none b
 refine ⟨⟨p,?_,fun hb=> ?_⟩,?_⟩
 ·rw[e1];exact h.ctrl
 ·rw[e2];exact h.known hb
 ·unfold lockOf
  rw[e1,e2]
  rfl
theorem born_step {s:SplitM} (h:BornP s) (hw:waitM s=0):BornP (stepS s):=by
 obtain ⟨a,b,c⟩:=step_sim h.sim hw
 obtain ⟨k,hk,hr⟩:=h.run
 obtain ⟨_,f1,_,_,f2,f3,f4⟩:=stepS_P h.sim.p hw
 have ht:=h.time
 refine ⟨b,⟨k+1,by omega,?_⟩,by omega⟩
 rw[f3,f4,runL_succ k (newL s.img s.pads) (by rw[hr]) (by rw[hr];exact a),hr,c]
theorem born_level {s:SplitM} (h:BornP s):BornP (levelM s):=by
 obtain ⟨a,b⟩:=level_sim h.sim
 obtain ⟨k,hk,hr⟩:=h.run
 exact ⟨a,⟨k,hk,by rw[←b]at hr;exact hr⟩,h.time⟩
theorem born_same {s u:SplitM} (h:BornP s) (k:BornP u) (hi:s.img=u.img) (hp:s.pads=u.pads) (hs:s.steps=u.steps):lockOf s=lockOf u:=by
 obtain ⟨a,ha,hr⟩:=h.run
 obtain ⟨b,hb,hq⟩:=k.run
 have e:a=b:=by omega
 subst e
 rw[hi,hp,hq]at hr
 exact (congrArg Prod.fst hr).symm
theorem up_of {s:SplitM} (h:SplitP s) (hp:stepPic s.pic s.T=none) (hs:stepSnd s.snd s.T=none):picUpM s=true∧sndUpM s=true:=by
 obtain ⟨a,b⟩:=donePic h.pic h.pt h.t.2 h.pl hp
 obtain ⟨c,d⟩:=doneSnd h.snd h.st h.t.2 h.sl hs
 unfold picUpM sndUpM
 rw[a,b,c,d]
 exact ⟨by simp[eqI_self],by simp[eqI_self]⟩
theorem level_up {s:SplitM} (h:SplitP s):picUpM (levelM s)=true∧sndUpM (levelM s)=true:=by
 obtain ⟨p,a,b⟩:=levelM_P h
 exact up_of p a b
theorem overN_cases (s:SplitM) (n:Int):(overN s n=0∧s.T+n≤20000)∨(overN s n=5∧20000<s.T+n):=by
 unfold overN
 by_cases h:20000<s.T+n
 ·rw[if_pos h];exact .inr ⟨rfl,h⟩
 ·rw[if_neg h];exact .inl ⟨rfl,by omega⟩
theorem wait_up {s:SplitM} (h:SplitP s) (hp:picUpM s=true) (hs:sndUpM s=true):waitM s=0∨waitM s=5∧20000<s.T+7:=by
 have hov: ∀n:Int,n≤7→overN s n=0∨overN s n=5∧20000<s.T+7:=fun n hn=>by
  rcases overN_cases s n with ⟨a,b⟩| ⟨a,b⟩
  ·exact .inl a
  ·exact .inr ⟨a,by omega⟩
 obtain ⟨p1,p2⟩:=picUp_l hp
 obtain ⟨s1,s2⟩:=sndUp_l hs
 have r1:=h.pic.ring.c0
 have r2:=h.snd.ring.c0
 have hc:=opCycN_b (opS s)
 unfold waitM
 rw[hp,hs,p1,s1]
 split
 ·exact hov 7 (by omega)
 rw[if_neg (by simp)]
 split
 ·exact hov 7 (by omega)
 rw[if_neg (by simp),if_neg (by simp),if_neg (by rintro ⟨_,_,h⟩;simp only[List.length_nil]at h;omega),if_neg (by rintro ⟨_,_,h⟩;simp only[List.length_nil]at h;omega)]
 exact hov _ (by omega)
theorem cpuEq_self (a:Tup cpuL):cpuEq a a=true:=by simp[cpuEq,eqI_self]
theorem apuEq_self (a:Tup apuL):apuEq a a=true:=by simp[apuEq,eqI_self]
theorem padEq_self (a:Tup padL):padEq a a=true:=by simp[padEq,eqI_self]
theorem memEq_self (a:Tup memL):memEq a a=true:=by simp[memEq,eqI_self]
theorem ppuEq_self (a:Tup ppuL):ppuEq a a=true:=by simp[ppuEq,eqI_self]
theorem lockEq_self (a:Tup lockL):lockEq a a=true:=by
 unfold lockEq
 simp only[cpuEq_self,apuEq_self,padEq_self,memEq_self,ppuEq_self,obsEq_self,eqI_self,beq_self_eq_true,Bool.and_self]
theorem asLock_level {s:SplitM} (h:SplitP s):asLock (levelM s).t=(lockOf s).t:=by
 obtain ⟨a,b⟩:=level_up h
 unfold asLock
 rw[splitOk_iff.2 (levelM_P h).1,show picUp (levelM s).t=true from a,show sndUp (levelM s).t=true from b]
 rfl
theorem fairM_t {n:Nat} {s:SplitM} (h:stepIs (levelM s)=true):fairM (n+1) s=((fairM n (stepGet (levelM s))).1,(fairM n (stepGet (levelM s))).2+1):=by
 show (if stepIs (levelM s)then _ else _)=_
 rw[h,if_pos rfl]
theorem born_fair: ∀{n:Nat} {s:SplitM},BornP s→7*(s.steps+n)≤20000→BornP (fairM n s).1∧(fairM n s).2=n∧(fairM n s).1.steps=s.steps+n
 |0,s,h,_=>⟨h,rfl,by show s.steps=s.steps+0;omega⟩
 |n+1,s,h,ht=>by
  have hl:=born_level h
  obtain ⟨a,b⟩:=level_up h.sim.p
  have ht':=h.time
  have hw:waitM (levelM s)=0:=by
   rcases wait_up hl.sim.p a b with e| ⟨_,e⟩
   ·exact e
   ·have:(levelM s).T=s.T:=rfl
    omega
  have e1:stepIs (levelM s)=true:=decide_eq_true hw
  have e2:stepGet (levelM s)=stepS (levelM s):=by unfold stepGet;rw[if_pos hw]
  rw[fairM_t e1,e2]
  have hst:=(stepS_P hl.sim.p hw).2.1
  have e3:(levelM s).steps=s.steps:=rfl
  obtain ⟨c,d,e⟩:=born_fair (n:=n) (born_step hl hw) (by omega)
  exact ⟨c,by rw[d],by rw[e,hst,e3];omega⟩

end Go.Proofs.YtgpifihakjdfeaaGreat.Plain
