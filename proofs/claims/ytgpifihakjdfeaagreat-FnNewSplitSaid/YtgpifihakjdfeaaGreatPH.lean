/- Plain laws of the printed functions: Sim, Sim2. No condition beyond those that each lemma states. -/
import Derived.Test.YtgpifihakjdfeaaGreatPE
set_option linter.unusedVariables false
set_option linter.unusedSimpArgs false
namespace Go.Proofs.YtgpifihakjdfeaaGreat.Plain
open Go Go.Tev
theorem donePic {w:PicM} {m:Int} (h:PicP w) (ht:w.ppu.T≤m) (hm:m≤20000) (hl: ∀x,x∈w.list→x.1≤m) (hs:stepPic w m=none):w.list=[]∧w.ppu.T=m:=by
 unfold stepPic at hs
 split at hs
 ·cases hs
 rename_i hd
 split at hs
 ·cases hs
 have e:w.ppu.T=m:=by omega
 refine ⟨?_,e⟩
 cases hw:w.list with
 |nil=>rfl
 |cons x l=>
  have h1:=hl x (by rw[hw];exact List.mem_cons_self)
  have h2:=h.lo x (by rw[hw];exact List.mem_cons_self)
  exact absurd (show due w.list w.ppu.T=true by rw[hw];exact decide_eq_true (by omega)) hd
theorem doneSnd {w:SndM} {m:Int} (h:SndP w) (ht:w.apu.T≤m) (hm:m≤20000) (hl: ∀x,x∈w.list→x.1≤m) (hs:stepSnd w m=none):w.list=[]∧w.apu.T=m:=by
 unfold stepSnd at hs
 split at hs
 ·cases hs
 rename_i hd
 split at hs
 ·cases hs
 have e:w.apu.T=m:=by omega
 refine ⟨?_,e⟩
 cases hw:w.list with
 |nil=>rfl
 |cons x l=>
  have h1:=hl x (by rw[hw];exact List.mem_cons_self)
  have h2:=h.lo x (by rw[hw];exact List.mem_cons_self)
  exact absurd (show due w.list w.apu.T=true by rw[hw];exact decide_eq_true (by omega)) hd
theorem upPic {w:PicM} {m:Int} (hl:w.list=[]) (ht:m≤w.ppu.T):stepPic w m=none:=by
 unfold stepPic
 rw[if_neg (by rw[hl];simp[due]),if_neg (by omega)]
theorem upSnd {w:SndM} {m:Int} (hl:w.list=[]) (ht:m≤w.apu.T):stepSnd w m=none:=by
 unfold stepSnd
 rw[if_neg (by rw[hl];simp[due]),if_neg (by omega)]
theorem caught_of {s:SplitM} (h:SplitP s):((caughtPic s.pic s.T).list=[]∧(caughtPic s.pic s.T).ppu.T=s.T)∧(caughtSnd s.snd s.T).list=[]∧(caughtSnd s.snd s.T).apu.T=s.T:=by
 obtain ⟨p,a,b⟩:=levelM_P h
 exact ⟨donePic p.pic p.pt p.t.2 p.pl a,doneSnd p.snd p.st p.t.2 p.sl b⟩
def lockOf (s:SplitM):LockM:=⟨s.img,s.pads,s.mem,s.cpu,(caughtPic s.pic s.T).ppu,(caughtSnd s.snd s.T).apu,s.pad,s.nmi,s.steps,(caughtPic s.pic s.T).frames,(caughtSnd s.snd s.T).samples,s.reads⟩
structure SimP (s:SplitM):Prop where
 p:SplitP s
 ctrl:s.ctrl=(caughtPic s.pic s.T).ppu.ctrl
 known:beatN s.knownAt s.T=false→s.known=(caughtSnd s.snd s.T).apu.irq
theorem lockOf_T {s:SplitM} (h:SplitP s):(lockOf s).ppu.T=s.T∧(lockOf s).apu.T=s.T:=⟨(caught_of h).1.2,(caught_of h).2.2⟩
theorem picUp_l {s:SplitM} (h:picUpM s=true):s.pic.list=[]∧s.pic.ppu.T=s.T:=by
 unfold picUpM at h
 rw[Bool.and_eq_true,eqI_iff,eqI_iff]at h
 exact ⟨List.eq_nil_of_length_eq_zero (by omega),h.1⟩
theorem sndUp_l {s:SplitM} (h:sndUpM s=true):s.snd.list=[]∧s.snd.apu.T=s.T:=by
 unfold sndUpM at h
 rw[Bool.and_eq_true,eqI_iff,eqI_iff]at h
 exact ⟨List.eq_nil_of_length_eq_zero (by omega),h.1⟩
def newS (f:List (List Int)) (p:List Int) (cap:Int):SplitM:=⟨f,p,newMem,newCpu f,⟨false,0⟩,0,false,0,false,0,0,[],⟨⟨0,0,0,0,0,false,List.replicate 16 0,[]⟩,cap,[],[]⟩,⟨⟨0,0,0,0,0,false,false⟩,cap,[],[]⟩⟩
theorem newRing_P {cap:Int} (hc:1≤cap∧cap≤16):RingP cap []:=⟨(fun x hx=>by cases hx),List.Pairwise.nil,hc.1,hc.2,(show (0:Int)≤cap by omega)⟩
theorem newS_P {f:List (List Int)} {p:List Int} {cap:Int} (h:ImgP f) (hp:PadsP p) (hc:1≤cap∧cap≤16):SplitP (newS f p cap):=
 ⟨newMem_P h,hp,newCpu_P f,⟨newPpu_P,newRing_P hc,(fun x hx=>by cases hx),(fun x hx=>by cases hx),by show (0:Int)=framesN 0;decide⟩,
  ⟨newApu_P,newRing_P hc,(fun x hx=>by cases hx),by show (0:Int)=0/16;decide⟩,⟨Int.le_refl _,(by show (0:Int)≤255;decide)⟩,⟨Int.le_refl _,(by show (0:Int)≤255;decide)⟩,⟨Int.le_refl _,(by show (0:Int)≤20000;decide)⟩,
  ⟨Int.le_refl _,Int.le_refl _⟩,⟨Int.le_refl _,Int.le_refl _⟩,Int.le_refl _,Int.le_refl _,(fun x hx=>by cases hx),(fun x hx=>by cases hx)⟩
structure BornP (s:SplitM):Prop where
 sim:SimP s
 run: ∃k:Nat,s.steps=k∧runL k (newL s.img s.pads)=(lockOf s,k)
 time:s.T≤7*s.steps
theorem newS_up (f:List (List Int)) (p:List Int) (cap:Int):caughtPic (newS f p cap).pic 0=(newS f p cap).pic∧caughtSnd (newS f p cap).snd 0=(newS f p cap).snd:=
 ⟨caughtPic_none (upPic rfl (Int.le_refl _)),caughtSnd_none (upSnd rfl (Int.le_refl _))⟩
theorem born_new {f:List (List Int)} {p:List Int} {cap:Int} (h:ImgP f) (hp:PadsP p) (hc:1≤cap∧cap≤16):BornP (newS f p cap):=by
 obtain ⟨a,b⟩:=newS_up f p cap
 have e:lockOf (newS f p cap)=newL f p:=by
  unfold lockOf
  rw[show (newS f p cap).T=0 from rfl,a,b]
  rfl
 refine ⟨⟨newS_P h hp hc,?_,fun _=> ?_⟩,⟨0,rfl,?_⟩,by show (0:Int)≤7*0;decide⟩
 ·rw[show (newS f p cap).T=0 from rfl,a];rfl
 ·rw[show (newS f p cap).T=0 from rfl,b];rfl
 ·rw[e];rfl
theorem up_of {s:SplitM} (h:SplitP s) (hp:stepPic s.pic s.T=none) (hs:stepSnd s.snd s.T=none):picUpM s=true∧sndUpM s=true:=by
 obtain ⟨a,b⟩:=donePic h.pic h.pt h.t.2 h.pl hp
 obtain ⟨c,d⟩:=doneSnd h.snd h.st h.t.2 h.sl hs
 unfold picUpM sndUpM
 rw[a,b,c,d]
 exact ⟨by simp[eqI_self],by simp[eqI_self]⟩
theorem level_up {s:SplitM} (h:SplitP s):picUpM (levelM s)=true∧sndUpM (levelM s)=true:=by
 obtain ⟨p,a,b⟩:=levelM_P h
 exact up_of p a b
theorem overN_cases (s:SplitM) (n:Int):(overN s n=0∧s.T+n≤20000)∨(overN s n=5∧20000<s.T+n):=by
 unfold overN
 by_cases h:20000<s.T+n
 ·rw[if_pos h];exact .inr ⟨rfl,h⟩
 ·rw[if_neg h];exact .inl ⟨rfl,by omega⟩
theorem wait_up {s:SplitM} (h:SplitP s) (hp:picUpM s=true) (hs:sndUpM s=true):waitM s=0∨waitM s=5∧20000<s.T+7:=by
 have hov: ∀n:Int,n≤7→overN s n=0∨overN s n=5∧20000<s.T+7:=fun n hn=>by
  rcases overN_cases s n with ⟨a,b⟩| ⟨a,b⟩
  ·exact .inl a
  ·exact .inr ⟨a,by omega⟩
 obtain ⟨p1,p2⟩:=picUp_l hp
 obtain ⟨s1,s2⟩:=sndUp_l hs
 have r1:=h.pic.ring.c0
 have r2:=h.snd.ring.c0
 have hc:=opCycN_b (opS s)
 unfold waitM
 rw[hp,hs,p1,s1]
 split
 ·exact hov 7 (by omega)
 rw[if_neg (by simp)]
 split
 ·exact hov 7 (by omega)
 rw[if_neg (by simp),if_neg (by simp),if_neg (by rintro ⟨_,_,h⟩;simp only[List.length_nil]at h;omega),if_neg (by rintro ⟨_,_,h⟩;simp only[List.length_nil]at h;omega)]
 exact hov _ (by omega)
theorem able_or {s:SplitM} (h:SplitP s):pickIs s 0=true∨pickIs s 1=true∨pickIs s 2=true∨(levelM s=s∧waitM s=5∧20000<s.T+7):=by
 rw[(pick_0 s).2,(pick_1 s).2,(pick_2 s).2]
 cases hp:stepPic s.pic s.T with
 |some v=>exact .inr (.inl rfl)
 |none=>
  cases hs:stepSnd s.snd s.T with
  |some v=>exact .inr (.inr (.inl rfl))
  |none=>
   obtain ⟨a,b⟩:=up_of h hp hs
   rcases wait_up h a b with h0| ⟨h5,h7⟩
   ·exact .inl (decide_eq_true h0)
   ·refine .inr (.inr (.inr ⟨?_,h5,h7⟩))
    unfold levelM
    rw[caughtPic_none hp,caughtSnd_none hs]
theorem ableA_of {s:SplitM} (h:SplitP s):ableA s=((if pickIs s 0 then [0]else [])++(if pickIs s 1 then [1]else []))++(if pickIs s 2 then [2]else []):=by
 have e: ∀who,(pickA s who).2=pickIs s who:=fun who=>by unfold pickA;rw[splitOk_iff.2 h,if_pos rfl]
 unfold ableA
 rw[e,e,e]
theorem alive_any {s:SplitM} (h:SplitP s):aliveA s=true:=by
 unfold aliveA
 rw[splitOk_iff.2 h,ableA_of h,Bool.true_and]
 rcases able_or h with e|e|e| ⟨e1,e2,_⟩
 ·rw[e];simp[ltI];omega
 ·rw[e];simp[ltI];omega
 ·rw[e];simp[ltI];omega
 ·rw[levelA_P h,e1]
  unfold waitA
  rw[splitOk_iff.2 h,if_pos rfl,e2,show eqI 5 5=true from rfl,Bool.or_true]
theorem cpuEq_self (a:Tup cpuL):cpuEq a a=true:=by simp[cpuEq,eqI_self]
theorem apuEq_self (a:Tup apuL):apuEq a a=true:=by simp[apuEq,eqI_self]
theorem padEq_self (a:Tup padL):padEq a a=true:=by simp[padEq,eqI_self]
theorem memEq_self (a:Tup memL):memEq a a=true:=by simp[memEq,eqI_self]
theorem ppuEq_self (a:Tup ppuL):ppuEq a a=true:=by simp[ppuEq,eqI_self]
theorem lockEq_self (a:Tup lockL):lockEq a a=true:=by
 unfold lockEq
 simp only[cpuEq_self,apuEq_self,padEq_self,memEq_self,ppuEq_self,obsEq_self,eqI_self,beq_self_eq_true,Bool.and_self]
theorem born_twin {s:SplitM} (h:BornP s) (hs:s.steps≤3000):twinA s=(lockOf s).t∧fewM s=true:=by
 have hf:fewM s=true:=by
  unfold fewM
  rw[splitOk_iff.2 h.sim.p,leI_iff.2 hs,Bool.true_and]
 obtain ⟨k,hk,hr⟩:=h.run
 have hL:lockOkM (newL s.img s.pads)=true:=lockOkM_iff.2 (newL_P h.sim.p.mem.img h.sim.p.pads)
 refine ⟨?_,hf⟩
 unfold twinA
 rw[hf,if_pos rfl]
 unfold lockRunA
 rw[hL,if_pos rfl,show manyN s.steps=k by unfold manyN;split<;>omega,hr]
theorem born_cpu {s:SplitM} (h:BornP s) (hs:s.steps≤3000):judgeCpuA s=true:=by
 obtain ⟨a,b⟩:=born_twin h hs
 have hT:(lockOf s).ppu.T=s.T:=(lockOf_T h.sim.p).1
 unfold judgeCpuA
 rw[a,b,Bool.true_and]
 show (cpuEq s.cpu.t s.cpu.t&&(padEq s.pad.t s.pad.t&&((s.nmi==s.nmi)&&(eqI s.T (lockOf s).ppu.T&&(memEq s.mem.t s.mem.t&&decide (s.reads=s.reads))))))=true
 rw[cpuEq_self,padEq_self,memEq_self,hT,eqI_self]
 simp
theorem beg_app {α:Type} [DecidableEq α] (a c:List α):beg a (a++c)=true:=by
 unfold beg
 simp
theorem caught_frames {w:PicM} (m:Int) (h:PicP w): ∃c,(caughtPic w m).frames=w.frames++c:=by
 refine (caughtPic_ind (m:=m) (Q:=fun v=> ∃c,v.frames=w.frames++c) (fun u v hu hq hs=> ?_) _ (Nat.le_refl _) h ⟨[],(List.append_nil _).symm⟩).2.1
 obtain ⟨c,hc⟩:=hq
 unfold stepPic at hs
 split at hs
 ·simp only[Option.some.injEq]at hs
  subst hs
  exact ⟨c,hc⟩
 ·split at hs
  ·simp only[Option.some.injEq]at hs
   subst hs
   by_cases ht:toldP u.ppu=true
   ·exact ⟨c++[frameP u.ppu],by show (if toldP u.ppu then _ else _)=_;rw[ht,if_pos rfl,hc,List.append_assoc]⟩
   ·exact ⟨c,by show (if toldP u.ppu then _ else _)=_;rw[if_neg ht,hc]⟩
  ·cases hs
theorem caught_samples {w:SndM} (m:Int) (h:SndP w): ∃c,(caughtSnd w m).samples=w.samples++c:=by
 refine (caughtSnd_ind (m:=m) (Q:=fun v=> ∃c,v.samples=w.samples++c) (fun u v hu hq hs=> ?_) _ (Nat.le_refl _) h ⟨[],(List.append_nil _).symm⟩).2.1
 obtain ⟨c,hc⟩:=hq
 unfold stepSnd at hs
 split at hs
 ·simp only[Option.some.injEq]at hs
  subst hs
  exact ⟨c,hc⟩
 ·split at hs
  ·simp only[Option.some.injEq]at hs
   subst hs
   by_cases ht:toldA u.apu=true
   ·exact ⟨c++[sampleA u.apu],by show (if toldA u.apu then _ else _)=_;rw[ht,if_pos rfl,hc,List.append_assoc]⟩
   ·exact ⟨c,by show (if toldA u.apu then _ else _)=_;rw[if_neg ht,hc]⟩
  ·cases hs
theorem seen_of {s:SplitM} (h:SplitP s):obsBeg (obsOf s.t) (lkObs (lockOf s).t)=true:=by
 obtain ⟨c,hc⟩:=caught_frames s.T h.pic
 obtain ⟨d,hd⟩:=caught_samples s.T h.snd
 show (beg s.pic.frames (caughtPic s.pic s.T).frames&&(beg s.snd.samples (caughtSnd s.snd s.T).samples&&beg s.reads s.reads))=true
 rw[hc,hd,beg_app,beg_app]
 have:=beg_app s.reads []
 rw[List.append_nil]at this
 rw[this]
 rfl
theorem born_seen {s:SplitM} (h:BornP s) (hs:s.steps≤3000):seenA s=true:=by
 obtain ⟨a,b⟩:=born_twin h hs
 unfold seenA
 rw[a,b,Bool.true_and]
 exact seen_of h.sim.p
theorem asLock_level {s:SplitM} (h:SplitP s):asLock (levelM s).t=(lockOf s).t:=by
 obtain ⟨a,b⟩:=level_up h
 unfold asLock
 rw[splitOk_iff.2 (levelM_P h).1,show picUp (levelM s).t=true from a,show sndUp (levelM s).t=true from b]
 rfl
theorem born_judged {s:SplitM} (h:BornP s) (hs:s.steps≤3000):judgeLevelA s=true:=by
 obtain ⟨a,b⟩:=born_twin h hs
 unfold judgeLevelA
 rw[a,b,levelA_P h.sim.p,asLock_level h.sim.p,lockEq_self]
 rfl
theorem born_all {s:SplitM} (h:BornP s) (hs:s.steps≤3000):judgeAllA s=true:=by
 unfold judgeAllA
 rw[born_cpu h hs,born_seen h hs,born_judged h hs,alive_any h.sim.p]
 rfl

end Go.Proofs.YtgpifihakjdfeaaGreat.Plain
