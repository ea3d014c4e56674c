/- Plain laws of the printed functions: LockI, LockJ, LockK, LockL, TwinI. No condition beyond those that each lemma states. -/
import Derived.Test.YtmlahgmhbdpkjaaGreatDoorPD
set_option linter.unusedVariables false
set_option linter.unusedSimpArgs false
namespace Go.Proofs.YtmlahgmhbdpkjaaGreatDoor.Plain
open Go Go.Tev
theorem Zoi (l:Zas) (a:Int) (h:ZbO l) (hr:l.reads.length≤4398046511000):r228 (l.t,(a,()))=some ((ZjV l a,()),((ZdK l a).t,())):=by
 have hl:leN (l.reads.length+1) (E.most .i)=true:=Zc5 (by simp only[E.most];omega)
 unfold r228 m228 ZdK ZjV
 refine Zaa (Zbu (a,())) ?_
 show (bif eqI (rgT a).1 2 then _ else bif eqI (rgT a).1 3 then _ else bif eqI (rgT a).1 4 then _ else bif eqI (rgT a).1 7 then _ else _)=_
 by_cases c2:(rgT a).1=2
 ·rw[Zav c2,if_pos c2,if_pos c2,cond_true]
  refine Zaa (Zsa l.ppu h.ppu (rgT a).2) ?_
  obtain ⟨e1,e2⟩:=ZfZ l.ppu (rgT a).2
  generalize Ze2 l.ppu (rgT a).2=q at e1 e2⊢
  obtain ⟨T,c,sc,ad,pal,bl,tb,ds⟩:=q
  have e1:tb=l.ppu.table:=e1
  have e2:ds=l.ppu.dots:=e2
  subst e1 e2
  show (bif leN (l.reads.length+1) (E.most .i)then _ else none)=_
  rw[hl];rfl
 rw[Zaq c2,if_neg c2,if_neg c2,cond_false]
 by_cases c3:(rgT a).1=3
 ·rw[Zav c3,if_pos c3,if_pos c3,cond_true]
  refine Zaa (Zge l.apu h.apu (rgT a).2) ?_
  show (bif leN (l.reads.length+1) (E.most .i)then _ else none)=_
  rw[hl];rfl
 rw[Zaq c3,if_neg c3,if_neg c3,cond_false]
 by_cases c4:(rgT a).1=4
 ·rw[Zav c4,if_pos c4,if_pos c4,cond_true]
  refine Zaa (Zgf l.pad l.pads l.ppu.T h.pads h.ppu.t) ?_
  show (bif leN (l.reads.length+1) (E.most .i)then _ else none)=_
  rw[hl];rfl
 rw[Zaq c4,if_neg c4,if_neg c4,cond_false]
 by_cases c7:(rgT a).1=7
 ·have hz:Zbx l.img l.mem a=0:=by
   unfold Zbx
   rw[if_neg (by omega),if_neg (by omega),if_neg (by omega)]
  rw[Zav c7,hz];rfl
 ·rw[Zaq c7,cond_false]
  exact Zaa (Zbt l.img l.mem a h.mem) rfl
theorem Zl6 (l:Zas) (a v:Int) (h:ZbO l):r229 (l.t,(a,(v,())))=some ((),((Zca l a v).t,())):=by
 unfold r229 m229 Zca
 refine Zaa (Zbu (a,())) ?_
 show (bif eqI (rgT a).1 2 then _ else bif eqI (rgT a).1 3 then _ else bif eqI (rgT a).1 4 then _ else bif eqI (rgT a).1 1 then (bif eqI (rgT a).1 1 then _ else _)else bif eqI (rgT a).1 5 then (bif eqI (rgT a).1 5 then _ else _)else bif eqI (rgT a).1 6 then _ else _)=_
 by_cases c2:(rgT a).1=2
 ·rw[Zav c2,if_pos c2,cond_true]
  refine Zaa (ZpO l.ppu h.ppu (rgT a).2 v) ?_
  have e2:(Zcx l.ppu (rgT a).2 v).dots=l.ppu.dots:=ZgK _ _ _
  generalize Zcx l.ppu (rgT a).2 v=q at e2⊢
  obtain ⟨T,c,sc,ad,pal,bl,tb,ds⟩:=q
  have e2:ds=l.ppu.dots:=e2
  subst e2
  rfl
 rw[Zaq c2,if_neg c2,cond_false]
 by_cases c3:(rgT a).1=3
 ·rw[Zav c3,if_pos c3,cond_true]
  exact Zaa (Zfp l.apu h.apu (rgT a).2 v) rfl
 rw[Zaq c3,if_neg c3,cond_false]
 by_cases c4:(rgT a).1=4
 ·rw[Zav c4,if_pos c4,cond_true]
  exact Zaa (Zfs l.pad l.pads l.ppu.T v h.pads h.ppu.t) rfl
 rw[Zaq c4,if_neg c4,cond_false]
 have kp:=Zjv l.img l.mem a v h.mem
 by_cases c1:(rgT a).1=1
 ·rw[Zav c1,cond_true,cond_true]
  exact Zaa kp rfl
 rw[Zaq c1,cond_false]
 by_cases c5:(rgT a).1=5
 ·rw[Zav c5,cond_true,cond_true]
  exact Zaa kp rfl
 rw[Zaq c5,cond_false]
 by_cases c6:(rgT a).1=6
 ·rw[Zav c6,cond_true]
  exact Zaa kp rfl
 ·rw[Zaq c6,cond_false]
  have e:ZkI l.img l.mem a v=l.mem:=by
   unfold ZkI
   rw[if_neg c1,if_neg (by omega)]
  rw[e]
theorem Zna (l:Zas) (a v:Int) (h:ZbO l) (_:0≤v∧v≤255):r229 (l.t,(a,(v,())))=some ((),((Zca l a v).t,())):=Zl6 l a v h
theorem Zil (l:Zas) (v:Int) (h:ZbO l) (hv:65530≤v∧v≤65534):r208 (l.t,(v,()))=some ((),((ZbY l v).t,())):=by
 unfold r208 m208
 have e:wI (v+1)=v+1:=Zau (by omega) (by omega)
 have k:=Zbt l.img l.mem (v+1) h.mem
 rw[←e]at k
 refine Zaa (Zbt l.img l.mem v h.mem) (Zaa k (Zaa (ZcE (Zbx l.img l.mem v,(Zbx l.img l.mem (wI (v+1)),()))) (Zaa (ZoV l.mem l.cpu (ZgA (Zbx l.img l.mem v) (Zbx l.img l.mem (wI (v+1)))) h.mem.ram h.cpu) ?_)))
 rw[e];rfl
theorem Zlt (l:Zas) (a:Int):(ZdK l a).ppu.table=l.ppu.table∧(ZdK l a).ppu.dots=l.ppu.dots∧(ZdK l a).frames=l.frames∧(ZdK l a).samples=l.samples:=by
 obtain ⟨e1,e2⟩:=ZfZ l.ppu (rgT a).2
 unfold ZdK
 repeat' split
 all_goals first|exact ⟨e1,e2,rfl,rfl⟩|exact ⟨rfl,rfl,rfl,rfl⟩
theorem Zkp (l:Zas) (a v:Int):(Zca l a v).ppu.dots=l.ppu.dots∧(Zca l a v).frames=l.frames∧(Zca l a v).samples=l.samples:=by
 have e2:(Zcx l.ppu (rgT a).2 v).dots=l.ppu.dots:=ZgK _ _ _
 unfold Zca
 repeat' split
 all_goals first|exact ⟨e2,rfl,rfl⟩|exact ⟨rfl,rfl,rfl⟩
theorem Zpj (l:Zas) (op arg:Int):(opL l op arg).img=l.img∧(opL l op arg).pads=l.pads∧(opL l op arg).ppu.dots=l.ppu.dots∧(opL l op arg).frames=l.frames∧(opL l op arg).samples=l.samples:=by
 unfold opL
 split
 ·obtain ⟨f1,f2,f3,f4,f5,f6⟩:=ZjW l (accA op arg l.cpu.x)
  obtain ⟨g1,g2,g3,g4⟩:=Zlt l (accA op arg l.cpu.x)
  exact ⟨f1,f5,g2,g3,g4⟩
 split
 ·obtain ⟨f1,f2,f3,f4,f5,f6⟩:=Zf3 l (accA op arg l.cpu.x) (l.cpu.a%256)
  obtain ⟨g1,g2,g3⟩:=Zkp l (accA op arg l.cpu.x) (l.cpu.a%256)
  exact ⟨f1,f5,g1,g2,g3⟩
 ·exact ⟨rfl,rfl,rfl,rfl,rfl⟩
theorem ZrK (l:Zas) (op arg:Int) (h:ZbO l) (hr:l.reads.length≤4398046511000) (ha:0≤arg∧arg≤65535):r209 (l.t,((op,(arg,())),()))=some ((),((opL l op arg).t,())):=by
 unfold r209 m209 opL
 refine Zaa (Zdf op arg l.cpu h.cpu ha) ?_
 show (bif eqI (ZaX op) 1 then _ else bif eqI (ZaX op) 2 then _ else _)=_
 by_cases o1:ZaX op=1
 ·rw[Zav o1,if_pos o1,cond_true]
  refine Zaa (Zoi l (accA op arg l.cpu.x) h hr) ?_
  have hv:=Ztw h (accA op arg l.cpu.x)
  obtain ⟨f1,f2,f3,f4,f5,f6⟩:=ZjW l (accA op arg l.cpu.x)
  obtain ⟨g1,g2,g3,g4⟩:=Zlt l (accA op arg l.cpu.x)
  generalize ZjV l (accA op arg l.cpu.x)=v at hv⊢
  generalize ZdK l (accA op arg l.cpu.x)=l' at f1 f2 f3 f4 f5 f6 g1 g2 g3 g4⊢
  obtain ⟨img,pads,mem,cpu,⟨pT,pc,ps,pa,pp,pb,ptb,pds⟩,apu,pad,nmi,st,fr,sm,rd⟩:=l'
  have f1:img=l.img:=f1
  have f2:mem=l.mem:=f2
  have f3:cpu=l.cpu:=f3
  have f5:pads=l.pads:=f5
  have g1:ptb=l.ppu.table:=g1
  have g2:pds=l.ppu.dots:=g2
  have g3:fr=l.frames:=g3
  have g4:sm=l.samples:=g4
  subst f1 f2 f3 f5 g1 g2 g3 g4
  exact Zaa (ZhC l.mem l.cpu op arg v h.mem.ram h.cpu hv) rfl
 rw[Zaq o1,if_neg o1,cond_false]
 by_cases o2:ZaX op=2
 ·rw[Zav o2,if_pos o2,cond_true]
  have ev:accV op l.cpu.a=l.cpu.a%256:=by unfold accV;rw[if_pos o2]
  have kw:=Zna l (accA op arg l.cpu.x) (l.cpu.a%256) h (mod256 _)
  rw[←ev]at kw
  refine Zaa kw ?_
  rw[ev]
  have hq:=ZpL h (accA op arg l.cpu.x) (l.cpu.a%256)
  obtain ⟨f1,f2,f3,f4,f5,f6⟩:=Zf3 l (accA op arg l.cpu.x) (l.cpu.a%256)
  obtain ⟨g1,g2,g3⟩:=Zkp l (accA op arg l.cpu.x) (l.cpu.a%256)
  generalize Zca l (accA op arg l.cpu.x) (l.cpu.a%256)=l' at hq f1 f2 f3 f4 f5 f6 g1 g2 g3⊢
  have h1:=hq.mem.ram
  have h2:=hq.cpu
  clear hq
  obtain ⟨img,pads,mem,cpu,⟨pT,pc,ps,pa,pp,pb,ptb,pds⟩,apu,pad,nmi,st,fr,sm,rd⟩:=l'
  have f1:img=l.img:=f1
  have f4:rd=l.reads:=f4
  have f5:pads=l.pads:=f5
  have g1:pds=l.ppu.dots:=g1
  have g2:fr=l.frames:=g2
  have g3:sm=l.samples:=g3
  subst f1 f4 f5 g1 g2 g3
  exact Zaa (ZhC mem cpu op arg 0 h1 h2 (by decide)) rfl
 ·rw[Zaq o2,if_neg o2,cond_false]
  have ev:accV op l.cpu.a=0:=by unfold accV;rw[if_neg o2]
  have k:=ZhC l.mem l.cpu op arg 0 h.mem.ram h.cpu (by decide)
  rw[←ev]at k
  refine Zaa k ?_
  rw[ev];rfl
theorem ZsA {l:Zas} (h:ZbO l):leN (l.frames.length+1) (E.most .n)=true∧leN (l.samples.length+1) (E.most .i)=true:=by
 have h1:=h.frn
 have h2:=h.sam
 have h3:=h.ppu.t
 unfold ZbN at h1
 exact ⟨Zc5 (by simp only[E.most];omega),Zc5 (by simp only[E.most];omega)⟩
theorem Zok (l:Zas) (h:ZbO l) (ht:l.ppu.T<20000):r210 (l.t,())=some ((),((Zf9 l).t,())):=by
 obtain ⟨hf,hs⟩:=ZsA h
 have kp:=Zsz l.ppu h.ppu ht
 have ka:=ZkS l.apu h.apu (by rw[h.t];exact ht)
 have et:=Ze8 l.ppu
 unfold r210 m210
 refine Zaa kp ?_
 clear kp h ht
 unfold Zf9
 obtain ⟨img,pads,mem,cpu,ppu,apu,pad,nmi,steps,frames,samples,reads⟩:=l
 dsimp only at hf hs ka et⊢
 generalize Zc8 ppu=q at et⊢
 generalize Zdl ppu=b
 generalize Zcn ppu=fr
 generalize ZiY ppu=aq
 generalize ZgJ apu=b2 at ka⊢
 generalize ZfG apu=sa at ka⊢
 generalize ZqU apu=a' at ka⊢
 obtain ⟨T,c,sc,ad,pal,bl,tb,ds⟩:=q
 have et:tb=ppu.table:=et
 subst et
 cases b with
 |true=>
  show (bif leN (frames.length+1) (E.most .n)then (bif nmi then _ else _)else none)=_
  rw[hf,cond_true]
  cases nmi with
  |true=>
   rw[cond_true]
   refine Zaa ka ?_
   cases b2 with
   |true=>show (bif leN (samples.length+1) (E.most .i)then _ else none)=_;rw[hs];rfl
   |false=>rfl
  |false=>
   rw[cond_false]
   refine Zaa ka ?_
   cases b2 with
   |true=>show (bif leN (samples.length+1) (E.most .i)then _ else none)=_;rw[hs];rfl
   |false=>rfl
 |false=>
  show (bif nmi then _ else _)=_
  cases nmi with
  |true=>
   rw[cond_true]
   refine Zaa ka ?_
   cases b2 with
   |true=>show (bif leN (samples.length+1) (E.most .i)then _ else none)=_;rw[hs];rfl
   |false=>rfl
  |false=>
   rw[cond_false]
   refine Zaa ka ?_
   cases b2 with
   |true=>show (bif leN (samples.length+1) (E.most .i)then _ else none)=_;rw[hs];rfl
   |false=>rfl
theorem ZdI: ∀(n:Nat) (l:Zas),(Zbk n l).img=l.img∧(Zbk n l).pads=l.pads∧(Zbk n l).mem=l.mem∧(Zbk n l).ppu.table=l.ppu.table∧(Zbk n l).reads=l.reads
 |0,l=>⟨rfl,rfl,rfl,rfl,rfl⟩
 |n+1,l=>by
  obtain ⟨a,b,c,d,e⟩:=ZdI n (Zf9 l)
  exact ⟨a,b,c,d.trans (Ze8 l.ppu),e⟩
theorem Zgj (c:Int) (hc:c≤7): ∀(d k:Nat) (i:Int) (l:Zas),0≤i→i+d=c→d<k→ZbO l→l.ppu.T+d≤20000→
  n174_0 r208 r209 r210 r189 r186 k (c,()) (l.t,()) (i,())=some (Sum.inl (c,()),((Zbk d l).t,()))
 |_,0,_,_,_,_,h,_,_=>absurd h (by omega)
 |0,k+1,i,l,h0,hi,_,_,_=>by
  show (bif ltI i c then _ else some (Sum.inl (i,()),(l.t,())))=_
  rw[ZaB (by omega),cond_false,show i=c by omega];rfl
 |d+1,k+1,i,l,h0,hi,hk,h,ht=>by
  show (bif ltI i c then (r210 (l.t,())).bind _ else _)=_
  rw[Zaj (by omega),cond_true]
  refine Zaa (Zok l h (by omega)) ?_
  have e:wI (i+1)=i+1:=Zau (by omega) (by omega)
  have ih:=Zgj c hc d k (i+1) (Zf9 l) (by omega) (by omega) (by omega) (Zsx h (by omega)) (by rw[ZoO];omega)
  rw[←e]at ih
  show _=some (Sum.inl (c,()),((Zbk d (Zf9 l)).t,()))
  generalize Zbk d (Zf9 l)=z at ih⊢
  have e1:(Zf9 l).ppu.table=l.ppu.table:=Ze8 _
  have e2:(Zf9 l).img=l.img:=rfl
  have e3:(Zf9 l).pads=l.pads:=rfl
  have e4:(Zf9 l).mem=l.mem:=rfl
  have e5:(Zf9 l).reads=l.reads:=rfl
  generalize Zf9 l=l' at ih e1 e2 e3 e4 e5⊢
  obtain ⟨img,pads,mem,cpu,⟨pT,pc,ps,pa,pp,pb,ptb,pds⟩,apu,pad,nmi,st,fr,sm,rd⟩:=l'
  have e1:ptb=l.ppu.table:=e1
  have e2:img=l.img:=e2
  have e3:pads=l.pads:=e3
  have e4:mem=l.mem:=e4
  have e5:rd=l.reads:=e5
  subst e1 e2 e3 e4 e5
  exact ih
theorem ZjC (m:Zas) (c:Int) (hc:2≤c∧c≤7) (h:ZbO m) (ht:m.ppu.T+c≤20000):L174_0 (c,()) (m.t,()) (0,())=some (Sum.inl (c,()),((Zbk c.toNat m).t,())):=
 Zgj c hc.2 c.toNat fuel 0 m (by omega) (by omega) (by have:=Zat;omega) h (by omega)
def Zcw (l:Zas):Zas:=if mayL l then ZdF l else l
theorem Zmq {m:Zas} {n:Nat} (h:ZbO m) (ht:m.ppu.T+n≤20000):wI ((Zbk n m).steps+1)=(Zbk n m).steps+1:=by
 obtain ⟨a,b,c,d⟩:=Zmt h ht
 have:=a.s0
 have:=a.s1
 exact Zau (by omega) (by omega)
theorem ZgI {l:Zas} (hm:mayL l=true) {m:Zas} (hd:doL l=m) {c:Int} (hc:ZbB l=c):Zcw l={(Zbk c.toNat m)with steps:=(Zbk c.toNat m).steps+1}:=by
 unfold Zcw
 rw[if_pos hm]
 unfold ZdF
 rw[hc,hd]
theorem Zoj (l:Zas) (h:ZbO l) (hr:l.reads.length≤4398046511000):r174 (l.t,())=some ((mayL l,()),((Zcw l).t,())):=by
 have kf:=ZfS l.img l.mem l.cpu.pc h.mem h.cpu.pc
 have kc:=ZbQ (Zbd l,())
 have hb:=ZmN l
 have hT:=h.ppu.t
 have hP:=Zvj h
 have hdt:=Zvk l
 have ho:=ZfW (Zbd l)
 unfold r174 m174
 show (bif l.nmi then _ else bif l.apu.irq then _ else _)=_
 cases hn:l.nmi with
 |true=>
  have hc:ZbB l=7:=by unfold ZbB ZkT;rw[hn];rfl
  have hd:doL l=ZbY {l with nmi:=false} 65530:=by unfold doL;rw[hn];rfl
  have ew:wI (l.ppu.T+7)=l.ppu.T+7:=Zau (by omega) (by omega)
  rw[cond_true]
  refine Zaa kf (Zaa kc ?_)
  show (bif ltI 20000 (wI (l.ppu.T+7))then _ else bif l.nmi then _ else _)=_
  rw[ew,hn,cond_true]
  by_cases hm:l.ppu.T+7≤20000
  ·have hmay:mayL l=true:=decide_eq_true (by rw[hc];exact hm)
   rw[ZaB (by omega),cond_false]
   refine Zaa (Zil {l with nmi:=false} 65530 ⟨h.mem,h.pads,h.cpu,h.ppu,h.apu,h.pad,h.t,h.s0,h.s1,h.fr,h.frn,h.sam⟩ (by omega)) ?_
   rw[hd]at hP
   have hq:(ZbY {l with nmi:=false} 65530).ppu.T+7≤20000:=hm
   have kt:L174_0 (7,()) ((ZbY {l with nmi:=false} 65530).t,()) (0,())=some (Sum.inl (7,()),((Zbk 7 (ZbY {l with nmi:=false} 65530)).t,())):=ZjC (ZbY {l with nmi:=false} 65530) 7 (by omega) hP hq
   refine Zaa kt ?_
   clear kt
   have hw:=Zmq (n:=7) hP hq
   obtain ⟨r1,r2,r3,r4,r5⟩:=ZdI 7 (ZbY {l with nmi:=false} 65530)
   rw[hmay,ZgI hmay hd hc]
   show _=some ((true,()),(Zas.t {(Zbk 7 (ZbY {l with nmi:=false} 65530))with steps:=(Zbk 7 (ZbY {l with nmi:=false} 65530)).steps+1},()))
   rw[←hw]
   generalize Zbk 7 (ZbY {l with nmi:=false} 65530)=q at r1 r2 r3 r4 r5⊢
   obtain ⟨img,pads,mem,cpu,⟨pT,pc,ps,pa,pp,pb,ptb,pds⟩,apu,pad,nmi,st,fr,sm,rd⟩:=q
   have r1:img=l.img:=r1
   have r2:pads=l.pads:=r2
   have r3:mem=Zk4 l.mem l.cpu:=r3
   have r4:ptb=l.ppu.table:=r4
   have r5:rd=l.reads:=r5
   subst r1 r2 r3 r4 r5
   rfl
  ·have hmay:mayL l=false:=decide_eq_false (by rw[hc];exact hm)
   rw[Zaj (by omega),cond_true,hmay]
   unfold Zcw
   rw[hmay,if_neg (by simp)]
 |false=>
  rw[cond_false]
  by_cases hq:l.apu.irq=true∧l.cpu.i=false
  ·obtain ⟨hirq,hi⟩:=hq
   have hc:ZbB l=7:=by unfold ZbB ZkT;rw[hn,hirq,hi];rfl
   have hd:doL l=ZbY l 65534:=by unfold doL;rw[hn,hirq,hi];rfl
   have ew:wI (l.ppu.T+7)=l.ppu.T+7:=Zau (by omega) (by omega)
   rw[hirq,cond_true]
   refine Zaa kf (Zaa kc ?_)
   show (bif !l.cpu.i then (bif ltI 20000 (wI (l.ppu.T+7))then _ else bif l.nmi then _ else bif !l.cpu.i then _ else _)else _)=_
   rw[ew,hn,hi,Bool.not_false,cond_true,cond_false,cond_true]
   by_cases hm:l.ppu.T+7≤20000
   ·have hmay:mayL l=true:=decide_eq_true (by rw[hc];exact hm)
    rw[ZaB (by omega),cond_false]
    refine Zaa (Zil l 65534 h (by omega)) ?_
    rw[hd]at hP
    have hq:(ZbY l 65534).ppu.T+7≤20000:=hm
    have kt:L174_0 (7,()) ((ZbY l 65534).t,()) (0,())=some (Sum.inl (7,()),((Zbk 7 (ZbY l 65534)).t,())):=ZjC (ZbY l 65534) 7 (by omega) hP hq
    refine Zaa kt ?_
    clear kt
    have hw:=Zmq (n:=7) hP hq
    obtain ⟨r1,r2,r3,r4,r5⟩:=ZdI 7 (ZbY l 65534)
    rw[hmay,ZgI hmay hd hc]
    show _=some ((true,()),(Zas.t {(Zbk 7 (ZbY l 65534))with steps:=(Zbk 7 (ZbY l 65534)).steps+1},()))
    rw[←hw]
    generalize Zbk 7 (ZbY l 65534)=q at r1 r2 r3 r4 r5⊢
    obtain ⟨img,pads,mem,cpu,⟨pT,pc,ps,pa,pp,pb,ptb,pds⟩,apu,pad,nmi,st,fr,sm,rd⟩:=q
    have r1:img=l.img:=r1
    have r2:pads=l.pads:=r2
    have r3:mem=Zk4 l.mem l.cpu:=r3
    have r4:ptb=l.ppu.table:=r4
    have r5:rd=l.reads:=r5
    subst r1 r2 r3 r4 r5
    rfl
   ·have hmay:mayL l=false:=decide_eq_false (by rw[hc];exact hm)
    rw[Zaj (by omega),cond_true,hmay]
    unfold Zcw
    rw[hmay,if_neg (by simp)]
  ·have hask:ZkT l=false:=by
    unfold ZkT
    rw[hn]
    cases h1:l.apu.irq with
    |false=>rfl
    |true=>
     cases h2:l.cpu.i with
     |true=>rfl
     |false=>exact absurd ⟨h1,h2⟩ hq
   have hc:ZbB l=Zba (Zbd l):=by unfold ZbB;rw[hask];rfl
   have hd:doL l=opL l (Zbd l) (ZeM l):=by
    unfold doL
    unfold ZkT at hask
    rw[hn,Bool.false_or]at hask
    rw[hn,hask];rfl
   have ew:wI (l.ppu.T+Zba (Zbd l))=l.ppu.T+Zba (Zbd l):=Zau (by omega) (by omega)
   have key: ∀(X:Option (PTup o174×BTup i174)),
     X=(bif ltI 20000 (wI (l.ppu.T+Zba (Zbd l)))then (some ((false,()),(l.t,())))else (r209 (l.t,((Zbd l,(ZeM l,())),()))).bind fun r2=>(L174_0 (Zba (Zbd l),()) (Zas.t {lkM r2.2.1 with img:=l.img,pads:=l.pads,frames:=l.frames,samples:=l.samples,ppu:={(lkM r2.2.1).ppu with dots:=l.ppu.dots}},()) (0,())).bind fun r3=>Zai r3.1 (fun r4=>some ((true,()),(Zas.t {lkM r3.2.1 with img:=l.img,pads:=l.pads,mem:=⟨(lkM r2.2.1).mem.ram,(lkM r3.2.1).mem.bank⟩,ppu:={(lkM r3.2.1).ppu with table:=(lkM r2.2.1).ppu.table},reads:=(lkM r2.2.1).reads,steps:=wI ((lkM r3.2.1).steps+1)},()))) (fun r4=>some ((false,()),(Zas.t {lkM r3.2.1 with img:=l.img,pads:=l.pads,mem:=⟨(lkM r2.2.1).mem.ram,(lkM r3.2.1).mem.bank⟩,ppu:={(lkM r3.2.1).ppu with table:=(lkM r2.2.1).ppu.table},reads:=(lkM r2.2.1).reads},()))))→
     X=some ((mayL l,()),((Zcw l).t,())):=by
    intro X hX
    rw[hX,ew]
    by_cases hm:l.ppu.T+Zba (Zbd l)≤20000
    ·have hmay:mayL l=true:=decide_eq_true (by rw[hc];exact hm)
     rw[ZaB (by omega),cond_false]
     refine Zaa (ZrK l (Zbd l) (ZeM l) h hr (ZtO h.mem _)) ?_
     rw[hmay,ZgI hmay hd hc]
     obtain ⟨q1,q2,q3,q4,q5⟩:=Zpj l (Zbd l) (ZeM l)
     rw[hd]at hP hdt
     generalize opL l (Zbd l) (ZeM l)=m at q1 q2 q3 q4 q5 hP hdt⊢
     have hq:m.ppu.T+Zba (Zbd l)≤20000:=by rw[hdt];exact hm
     have kt:=ZjC m (Zba (Zbd l)) (by omega) hP hq
     have hw:=Zmq (n:=(Zba (Zbd l)).toNat) hP (by omega)
     obtain ⟨r1,r2,r3,r4,r5⟩:=ZdI (Zba (Zbd l)).toNat m
     clear hP hdt hq
     generalize Zbk (Zba (Zbd l)).toNat m=q at kt hw r1 r2 r3 r4 r5⊢
     obtain ⟨img,pads,mem,cpu,⟨pT,pc,ps,pa,pp,pb,ptb,pds⟩,apu,pad,nmi,st,fr,sm,rd⟩:=m
     have q1:img=l.img:=q1
     have q2:pads=l.pads:=q2
     have q3:pds=l.ppu.dots:=q3
     have q4:fr=l.frames:=q4
     have q5:sm=l.samples:=q5
     subst q1 q2 q3 q4 q5
     refine Zaa kt ?_
     obtain ⟨img,pads,mem',cpu',⟨pT',pc',ps',pa',pp',pb',ptb',pds'⟩,apu',pad',nmi',st',fr',sm',rd'⟩:=q
     change img=l.img at r1
     change pads=l.pads at r2
     change mem'=mem at r3
     change ptb'=ptb at r4
     change rd'=rd at r5
     subst r1 r2 r3 r4 r5
     have hw:wI (st'+1)=st'+1:=hw
     show _=some ((true,()),(Zas.t ⟨_,_,_,_,_,_,_,_,st'+1,_,_,_⟩,()))
     rw[←hw]
     rfl
    ·have hmay:mayL l=false:=decide_eq_false (by rw[hc];exact hm)
     rw[Zaj (by omega),cond_true,hmay]
     unfold Zcw
     rw[hmay,if_neg (by simp)]
   cases hirq:l.apu.irq with
   |true=>
    have hi:l.cpu.i=true:=by
     cases h2:l.cpu.i with
     |true=>rfl
     |false=>exact absurd ⟨hirq,h2⟩ hq
    rw[cond_true]
    refine Zaa kf (Zaa kc ?_)
    show (bif !l.cpu.i then _ else bif ltI 20000 (wI (l.ppu.T+Zba (Zbd l)))then _ else bif l.nmi then _ else bif !l.cpu.i then _ else _)=_
    rw[hn,hi,Bool.not_true,cond_false,cond_false,cond_false]
    exact key _ rfl
   |false=>
    rw[cond_false]
    refine Zaa kf (Zaa kc ?_)
    show (bif ltI 20000 (wI (l.ppu.T+Zba (Zbd l)))then _ else bif l.nmi then _ else _)=_
    rw[hn,cond_false]
    exact key _ rfl
def ZeW (l:Zas):Bool:=ZhP l.img l.mem.t&&(Zfd l.pads&&(Zkw l.cpu.t&&(ZgD l.ppu.t&&(Zhy l.apu.t&&(inR 0 255 l.pad.t.2.1&&(eqI l.apu.T l.ppu.T&&(inR 0 l.ppu.T l.steps&&(Zco l.frames l.ppu.T&&ZdE l.samples l.ppu.T))))))))
theorem ZgB {l:Zas}:ZeW l=true↔ZbO l:=by
 unfold ZeW
 simp only[Bool.and_eq_true]
 constructor
 ·rintro ⟨a,b,c,d,e,f,g,h,i,j⟩
  have d:=Zfz.1 d
  obtain ⟨i1,i2⟩:=(ZdR d.t.1).1 i
  have h:=Zbp.1 h
  exact ⟨ZdB.1 a,Zdo.1 b,ZgT.1 c,d,Zeg.1 e,Zbp.1 f,Zcm.1 g,h.1,h.2,i1,i2,(Zdi d.t.1).1 j⟩
 ·rintro ⟨a,b,c,d,e,f,g,h0,h1,i1,i2,j⟩
  exact ⟨ZdB.2 a,Zdo.2 b,ZgT.2 c,Zfz.2 d,Zeg.2 e,Zbp.2 f,Zcm.2 g,Zbp.2 ⟨h0,h1⟩,(ZdR d.t.1).2 ⟨i1,i2⟩,(Zdi d.t.1).2 j⟩
theorem Zg0 (l:Zas) (hs:Zfx l.t):r172 (l.t,())=some ((ZeW l,()),()):=by
 obtain ⟨h1,h2,h3,h4,⟨h5,_,_⟩,h6,h7⟩:=hs
 have h2:l.pads.length≤4398046511104:=h2
 unfold r172 m172 ZeW
 refine Zaa (ZdU l.img l.mem.t h1 h3) ?_
 show (bif ZhP l.img l.mem.t then _ else _)=_
 cases ZhP l.img l.mem.t with
 |false=>rfl
 |true=>
 rw[cond_true,Bool.true_and]
 refine Zaa (ZeQ l.pads (by omega)) ?_
 show (bif Zfd l.pads then _ else _)=_
 cases Zfd l.pads with
 |false=>rfl
 |true=>
 rw[cond_true,Bool.true_and]
 refine Zaa (Zic l.cpu.t) ?_
 show (bif Zkw l.cpu.t then _ else _)=_
 cases Zkw l.cpu.t with
 |false=>rfl
 |true=>
 rw[cond_true,Bool.true_and]
 refine Zaa (Zig l.ppu.t h4) ?_
 show (bif ZgD l.ppu.t then _ else _)=_
 cases e:ZgD l.ppu.t with
 |false=>rfl
 |true=>
 have hT:=(Zfz.1 e).t
 rw[cond_true,Bool.true_and]
 refine Zaa (ZdT l.apu.t) ?_
 show (bif Zhy l.apu.t then _ else _)=_
 cases Zhy l.apu.t with
 |false=>rfl
 |true=>
 rw[cond_true,Bool.true_and]
 refine Zaa (ZcT (l.pad.t.2.1,())) ?_
 show (bif inR 0 255 l.pad.t.2.1 then _ else _)=_
 cases inR 0 255 l.pad.t.2.1 with
 |false=>rfl
 |true=>
 rw[cond_true,Bool.true_and]
 show (bif eqI l.apu.T l.ppu.T then _ else _)=_
 cases eqI l.apu.T l.ppu.T with
 |false=>rfl
 |true=>
 rw[cond_true,Bool.true_and]
 refine Zaa (Zbw (l.steps,(0,(l.ppu.T,())))) ?_
 show (bif inR 0 l.ppu.T l.steps then _ else _)=_
 cases inR 0 l.ppu.T l.steps with
 |false=>rfl
 |true=>
 rw[cond_true,Bool.true_and]
 refine Zaa (Zfr l.frames l.ppu.T h5 hT.1 hT.2) ?_
 show (bif Zco l.frames l.ppu.T then _ else _)=_
 cases Zco l.frames l.ppu.T with
 |false=>rfl
 |true=>
 rw[cond_true,Bool.true_and]
 exact Zaa (Zfa l.samples l.ppu.T hT.1 hT.2) rfl
theorem Zp5 (l:Zas) (hs:Zfx l.t):r173 (l.t,())=some ((l.t,()),()):=by
 obtain ⟨h1,h2,h3,h4,h5,h6,h7⟩:=hs
 unfold r173 m173
 exact Zaa (ZdQ l.img h1) (Zaa (ZaM l.pads h2) (Zaa (ZkX l.mem.t h3) (Zaa (ZkY l.ppu.t h4) (Zaa (ZeJ l.frames h5) (Zaa (ZaM l.samples h6) (Zaa (ZaM l.reads h7) rfl))))))
theorem Zlk {l:Zas} (h:ZbO l) (hr:l.reads.length≤4398046511000):Zfx l.t:=h.s (by omega)
theorem Zrj (l:Zas):(doL l).img=l.img∧(doL l).pads=l.pads:=by
 unfold doL
 split
 ·exact ⟨rfl,rfl⟩
 split
 ·exact ⟨rfl,rfl⟩
 ·obtain ⟨a,b,_⟩:=Zpj l (Zbd l) (ZeM l);exact ⟨a,b⟩
theorem Zke (l:Zas):(ZdF l).img=l.img∧(ZdF l).pads=l.pads:=by
 obtain ⟨a,b,_⟩:=ZdI (ZbB l).toNat (doL l)
 exact ⟨a.trans (Zrj l).1,b.trans (Zrj l).2⟩
theorem Zpy: ∀(n:Nat) (l:Zas),(runL n l).1.img=l.img∧(runL n l).1.pads=l.pads
 |0,l=>⟨rfl,rfl⟩
 |n+1,l=>by
  unfold runL
  split
  ·obtain ⟨a,b⟩:=Zpy n (ZdF l)
   exact ⟨a.trans (Zke l).1,b.trans (Zke l).2⟩
  ·exact ⟨rfl,rfl⟩
theorem ZvF {j:Nat} {l:Zas} (h:mayL l=false):runL (j+1) l=(l,0):=by
 show (if mayL l then _ else _)=_
 rw[h,if_neg (by simp)]
theorem ZvG {j:Nat} {l:Zas} (h:mayL l=true):runL (j+1) l=((runL j (ZdF l)).1,(runL j (ZdF l)).2+1):=by
 show (if mayL l then _ else _)=_
 rw[h,if_pos rfl]
theorem ZqO {l:Zas} (h:mayL l=false):Zcw l=l:=by unfold Zcw;rw[h,if_neg (by simp)]
theorem ZqP {l:Zas} (h:mayL l=true):Zcw l=ZdF l:=by unfold Zcw;rw[h,if_pos rfl]
theorem Ze9 (n:Int): ∀(k i j:Nat) (l:Zas),ZbO l→l.reads.length+j≤4398046511000→j<k→ZiA n=i+j→
  n141_0 r174 r172 r173 k (n,()) (l.t,()) ((i:Int),())=some (Sum.inl (((i+(runL j l).2:Nat):Int),()),((runL j l).1.t,()))
 |0,_,_,_,_,_,h,_=>absurd h (by omega)
 |k+1,i,j,l,h,hr,hk,hm=>by
  have hb:=Zpc n
  show (bif ltI (i:Int) (mnI n 3000)then (r174 (l.t,())).bind _ else some (Sum.inl ((i:Int),()),(l.t,())))=_
  cases j with
  |zero=>
   rw[ZtS,ZaB (by unfold ZiA at hm;omega),cond_false]
   rfl
  |succ j=>
   rw[ZtS,Zaj (by unfold ZiA at hm;omega),cond_true]
   refine Zaa (Zoj l h (by omega)) ?_
   show (bif !mayL l then _ else _)=_
   cases hst:mayL l with
   |false=>
    rw[ZvF hst,ZqO hst,Bool.not_false,cond_true];rfl
   |true=>
    rw[ZvG hst,ZqP hst,Bool.not_true,cond_false]
    obtain ⟨a,_,_,d⟩:=ZuW h hst
    have ih:=Ze9 n k (i+1) j (ZdF l) a (by omega) (by omega) (by omega)
    have ew:wI ((i:Int)+1)=((i+1:Nat):Int):=by rw[Zau (by omega) (by omega)];omega
    rw[show i+1+(runL j (ZdF l)).2=i+((runL j (ZdF l)).2+1) by omega,←ew]at ih
    obtain ⟨g1,g2⟩:=Zke l
    show _=some (Sum.inl (((i+((runL j (ZdF l)).2+1):Nat):Int),()),((runL j (ZdF l)).1.t,()))
    generalize runL j (ZdF l)=z at ih⊢
    generalize ZdF l=l' at ih g1 g2⊢
    obtain ⟨img,pads,mem,cpu,ppu,apu,pad,nmi,st,fr,sm,rd⟩:=l'
    have g1:img=l.img:=g1
    have g2:pads=l.pads:=g2
    subst g1 g2
    exact ih
def Zg6 (l:Zas) (n:Int):Tup ZhN×Int:=if ZeW l then ((runL (ZiA n) l).1.t,((runL (ZiA n) l).2:Int))else (ZuC,0)
theorem ZlZ (l:Zas) (n:Int) (hs:Zfx l.t) (hr:l.reads.length≤1048576):r141 (l.t,(n,()))=some (((Zg6 l n).1,((Zg6 l n).2,())),()):=by
 have hb:=Zpc n
 unfold r141 m141 Zg6
 refine Zaa (Zg0 l hs) ?_
 show (bif !ZeW l then _ else _)=_
 cases ho:ZeW l with
 |false=>rfl
 |true=>
  have h:=ZgB.1 ho
  rw[Bool.not_true,cond_false,if_pos rfl]
  refine Zaa (Zp5 l hs) ?_
  have k:=Ze9 n fuel 0 (ZiA n) l h (by omega) (by have:=Zat;omega) (by omega)
  simp only[Int.natCast_zero,Nat.zero_add]at k
  refine Zaa k ?_
  obtain ⟨g1,g2⟩:=Zpy (ZiA n) l
  generalize runL (ZiA n) l=d at g1 g2⊢
  obtain ⟨⟨img,pads,mem,cpu,ppu,apu,pad,nmi,st,fr,sm,rd⟩,m⟩:=d
  have g1:img=l.img:=g1
  have g2:pads=l.pads:=g2
  subst g1 g2
  rfl
def Zbv:MemM:=⟨List.replicate 512 0,0⟩
def Zim (f:List (List Int)):CpuM:=⟨0,0,255,vecN f Zbv 65532,false,false,false,true⟩
def newL (f:List (List Int)) (p:List Int):Zas:=⟨f,p,Zbv,Zim f,⟨0,0,0,0,0,false,List.replicate 16 0,[]⟩,⟨0,0,0,0,0,false,false⟩,⟨false,0⟩,false,0,[],[],[]⟩
theorem ZiM {f:List (List Int)} (h:ImgP f):MemP f Zbv:=
 ⟨h,⟨by show (List.replicate 512 (0:Int)).length=512;exact List.length_replicate,fun n hn=>by have:=List.eq_of_mem_replicate hn;omega⟩,by show (0:Int)≤0;decide,by have:=h.lo;show (0:Int)< (f.length:Int);omega⟩
theorem Zpg:PpuP ⟨0,0,0,0,0,false,List.replicate 16 0,[]⟩:=
 ⟨by decide,by decide,by decide,by decide,by decide,by decide,fun n hn=>by have:=List.eq_of_mem_replicate hn;omega,by decide,fun n hn=>by cases hn⟩
theorem Zpe:ApuP ⟨0,0,0,0,0,false,false⟩:=⟨by decide,by decide,by decide,by decide,by decide⟩
theorem Zpf (f:List (List Int)):CpuP (Zim f):=
 ⟨by show (0:Int)≤0∧(0:Int)≤255;decide,by show (0:Int)≤0∧(0:Int)≤255;decide,by show (0:Int)≤255∧(255:Int)≤255;decide,Zt2 _ _ _⟩
theorem ZrN {f:List (List Int)} {p:List Int} (h:ImgP f) (hp:ZgL p):ZbO (newL f p):=
 ⟨ZiM h,hp,Zpf f,Zpg,Zpe,by show (0:Int)≤0∧(0:Int)≤255;decide,rfl,by show (0:Int)≤0;decide,by show (0:Int)≤0;decide,(fun l hl=>by cases hl),
  by show ((0:Nat):Int)=ZbN 0;decide,by show ((0:Nat):Int)=0/16;decide⟩
theorem ZgZ (f:List (List Int)) (h:ImgP f):r69 ((f,()),())=some (((Zim f).t,()),()):=by
 have hm:=ZiM h
 have k1:=Zju f Zbv 65532 hm
 have k2:=Zju f Zbv 65533 hm
 unfold r69 m69
 refine Zaa (y:=((Zbv.t,()),())) rfl ?_
 have kv:r124 ((f,()),(Zbv.t,((65532:Int),())))=some ((vecN f Zbv 65532,()),()):=by
  unfold r124 m124
  exact Zaa k1 (Zaa k2 (Zaa (ZcE (Zbx f Zbv 65532,(Zbx f Zbv 65533,()))) rfl))
 exact Zaa kv rfl
theorem Zmm (f:List (List Int)) (h:ImgP f):r62 ((f,()),())=some (((Zim f).t,()),()):=by
 have hm:=ZiM h
 have k1:=Zkd f Zbv 65532 hm
 have k2:=Zkd f Zbv 65533 hm
 unfold r62 m62
 refine Zaa (y:=((Zbv.t,()),())) rfl ?_
 exact Zaa k1 (Zaa k2 (Zaa (Zkb (Zbx f Zbv 65532,(Zbx f Zbv 65533,()))) rfl))
theorem ZkB (f:List (List Int)) (p:List Int) (h:ImgP f) (hp:ZgL p):r140 ((f,()),(p,()))=some (((newL f p).t,(true,())),()):=by
 have hP:=ZrN h hp
 have hs:=Zlk hP (by show 0≤_;omega)
 have hl:=hp.len
 unfold r140 m140
 refine Zaa (ZdQ f h.small) (Zaa (ZaM p (by omega)) (Zaa (y:=((Zbv.t,()),())) rfl (Zaa (ZgZ f h) (Zaa (y:=(((newL f p).ppu.t,()),())) rfl (Zaa (Zg0 (newL f p) hs) ?_)))))
 show (bif !ZeW (newL f p)then _ else _)=_
 rw[ZgB.2 hP,Bool.not_true,cond_false]
 rfl
def fewM (s:Zac):Bool:=ZaV s.t&&leI s.steps 3000
def ZkQ (s:Zac):Tup ZhN:=if fewM s then (Zg6 (newL s.img s.pads) s.steps).1 else ZuC
theorem ZeX (s:Zac) (hs:ZaG s.t):r99 (s.t,())=some ((fewM s,()),()):=by
 unfold r99 m99 fewM
 refine Zaa (Za4 s.t hs) ?_
 show (bif ZaV s.t then _ else _)=_
 cases ZaV s.t<;>rfl
theorem Zgy (s:Zac) (hs:ZaG s.t):r100 (s.t,())=some ((ZkQ s,()),()):=by
 unfold r100 m100 ZkQ
 refine Zaa (ZeX s hs) ?_
 show (bif !fewM s then _ else _)=_
 cases hf:fewM s with
 |false=>rfl
 |true=>
  have hf2:=hf
  unfold fewM at hf2
  rw[Bool.and_eq_true]at hf2
  have h:=ZaO.1 hf2.1
  have hP:=ZrN h.mem.img h.pads
  have hz:Zfx (newL s.img s.pads).t:=Zlk hP (by show 0≤_;omega)
  rw[Bool.not_true,cond_false,if_pos rfl]
  exact Zaa (ZkB s.img s.pads h.mem.img h.pads) (Zaa (ZlZ (newL s.img s.pads) s.steps hz (by show 0≤_;omega)) rfl)
def ZoC (s:Zac):Bool:=fewM s&&ZjH (ZqB s.t) (ZhK (ZkQ s))
theorem ZrR {s:Zac} (hs:ZaG s.t):Ztj (ZqB s.t):=by
 obtain ⟨h1,h2,h3,h4,h5,h6⟩:=hs
 exact ⟨h5.2.2,h6.2,h4⟩
theorem Zix (s:Zac) (hs:ZaG s.t):r55 (s.t,())=some ((ZoC s,()),()):=by
 unfold r55 m55 ZoC
 refine Zaa (ZeX s hs) ?_
 show (bif fewM s then _ else _)=_
 cases fewM s with
 |false=>rfl
 |true=>exact Zaa (Zid s.t hs) (Zaa (Zgy s hs) (Zaa (ZlY (ZqB s.t) (ZhK (ZkQ s)) (ZrR hs)) rfl))
theorem ZmE {s:Tup ZbF} (h:ZaG s):Zfx (Zh9 s):=by
 obtain ⟨h1,h2,h3,h4,h5,h6⟩:=h
 unfold Zh9
 split
 ·exact ⟨h1,h2,h3,h5.1,h5.2.2,h6.2,h4⟩
 ·exact ⟨⟨by decide,(fun l hl=>by cases hl),by decide⟩,by decide,by decide,⟨by decide,by decide⟩,⟨by decide,(fun l hl=>by cases hl),by decide⟩,by decide,by decide⟩
def Zce (s:Zac):Bool:=fewM s&&Zpa (Zh9 (Zfc s).t) (ZkQ s)
theorem ZhH (s:Zac) (hs:ZaG s.t) (hr:Room s):r56 (s.t,())=some ((Zce s,()),()):=by
 obtain ⟨ls,lr⟩:=Zo8 hs hr
 unfold r56 m56 Zce
 refine Zaa (ZeX s hs) ?_
 show (bif fewM s then _ else _)=_
 cases fewM s with
 |false=>rfl
 |true=>exact Zaa (Zjq s hs hr) (Zaa (ZlX (Zfc s).t ls) (Zaa (Zgy s hs) (Zaa (Zjr (Zh9 (Zfc s).t) (ZkQ s) (ZmE ls)) rfl)))
def cpuJ (s:Zac) (g:Tup ZhN):Bool:=ZnX s.cpu.t (Zqr g)&&(Zot s.pad.t (Zqs g)&&((s.nmi==g.2.2.2.2.2.2.2.2.2.2.2.2.2.2.2.2.2.2.2.2.2.2.2.2.2.2.2.2.2.1)&&(eqI s.T (Zl5 g).1&&(Znb s.mem.t (Zl4 g)&&decide (s.reads=(ZhK g).2.2.1)))))
def ZdA (s:Zac):Bool:=fewM s&&cpuJ s (ZkQ s)
theorem Zjp (s:Zac) (hs:ZaG s.t):r54 (s.t,())=some ((ZdA s,()),()):=by
 have hm:s.mem.t.1.length≤4398046511104:=hs.2.2.1
 have hrd:s.reads.length≤4398046511104:=hs.2.2.2.1
 unfold r54 m54 ZdA
 refine Zaa (ZeX s hs) ?_
 show (bif !fewM s then _ else _)=_
 cases fewM s with
 |false=>rfl
 |true=>
 rw[Bool.not_true,cond_false,Bool.true_and]
 refine Zaa (Zgy s hs) ?_
 generalize ZkQ s=g
 have k1:=Zln s.mem.t (Zl4 g) hm
 have k2:=ZeL s.reads (ZhK g).2.2.1 hrd
 unfold cpuJ
 show (bif ZnX s.cpu.t (Zqr g)then (bif Zot s.pad.t (Zqs g)then (bif s.nmi==g.2.2.2.2.2.2.2.2.2.2.2.2.2.2.2.2.2.2.2.2.2.2.2.2.2.2.2.2.2.1 then (bif eqI s.T (Zl5 g).1 then _ else _)else _)else _)else _)=_
 cases ZnX s.cpu.t (Zqr g)with
 |false=>rfl
 |true=>
 cases Zot s.pad.t (Zqs g)with
 |false=>rfl
 |true=>
 cases s.nmi==g.2.2.2.2.2.2.2.2.2.2.2.2.2.2.2.2.2.2.2.2.2.2.2.2.2.2.2.2.2.1 with
 |false=>rfl
 |true=>
 cases eqI s.T (Zl5 g).1 with
 |false=>rfl
 |true=>
 rw[cond_true,cond_true,cond_true,cond_true,Bool.true_and,Bool.true_and,Bool.true_and,Bool.true_and]
 refine Zaa k1 ?_
 show (bif Znb s.mem.t (Zl4 g)then _ else _)=_
 cases Znb s.mem.t (Zl4 g)with
 |false=>rfl
 |true=>exact Zaa k2 rfl
def Zg4 (s:Zac):Bool:=ZdA s&&(ZoC s&&(Zce s&&ZmA s))
theorem Zjo (s:Zac) (hs:ZaG s.t) (hr:Room s):r18 (s.t,())=some ((Zg4 s,()),()):=by
 unfold r18 m18 Zg4
 refine Zaa (Zjp s hs) ?_
 show (bif ZdA s then _ else _)=_
 cases ZdA s with
 |false=>rfl
 |true=>
 refine Zaa (Zix s hs) ?_
 show (bif ZoC s then _ else _)=_
 cases ZoC s with
 |false=>rfl
 |true=>
 refine Zaa (ZhH s hs hr) ?_
 show (bif Zce s then _ else _)=_
 cases Zce s with
 |false=>rfl
 |true=>exact Zaa (Ziw s hs hr) rfl

end Go.Proofs.YtmlahgmhbdpkjaaGreatDoor.Plain
