/- Plain laws of the printed functions: Exec, UnitM, LockM, SplitM. No condition beyond those that each lemma states. -/
import Derived.Test.YtmlahgmhbdpkjaaGreatDoorPA
set_option linter.unusedVariables false
set_option linter.unusedSimpArgs false
namespace Go.Proofs.YtmlahgmhbdpkjaaGreatDoor.Plain
open Go Go.Tev
theorem ZoM (a b:Int):0≤Zg7 a b∧Zg7 a b≤65535:=by unfold Zg7;omega
def ColP (l:List Int):Prop:= ∀n,n∈l→0≤n∧n≤63
structure PpuP (p:PpuM):Prop where
 t:0≤p.T∧p.T≤20000
 ctrl:0≤p.ctrl∧p.ctrl≤255
 scroll:0≤p.scroll∧p.scroll≤255
 addr:0≤p.addr∧p.addr≤15
 pal:0≤p.pal∧p.pal≤63
 len:p.table.length=16
 table:ColP p.table
 dots:(p.dots.length:Int)=if 48<p.T%64 then 0 else p.T%64
 cols:ColP p.dots
theorem ZjJ {p:PpuM}:Zgn p.t=true↔PpuP p:=by
 unfold Zgn ZjI Zhi PpuM.t
 simp only[Bool.and_eq_true,Zbd,ZeU,ZdV]
 constructor
 ·rintro ⟨⟨a,b,c,d,e⟩,f,g,h,i⟩
  refine ⟨a,b,c,d,e,by omega,g,?_,i⟩
  rw[h,Zjb,ZcJ a.1]
 ·rintro ⟨a,b,c,d,e,f,g,h,i⟩
  refine ⟨⟨a,b,c,d,e⟩,by omega,g,?_,i⟩
  rw[h,Zjb,ZcJ a.1]
theorem PpuP.s {p:PpuM} (h:PpuP p):ZeA p.t:=by
 have h1:=h.len
 have h2:=h.dots
 refine ⟨by show p.table.length≤_;omega,?_⟩
 show p.dots.length≤_
 split at h2<;>omega
theorem ColP.set {l:List Int} (h:ColP l) (i:Nat) {v:Int} (hv:0≤v∧v≤63):ColP (l.set i v):=fun n hn=>by
 rcases List.mem_or_eq_of_mem_set hn with h1|h1
 ·exact h n h1
 ·rw[h1];exact hv
structure ApuP (a:ApuM):Prop where
 t:0≤a.T∧a.T≤20000
 period:0≤a.period∧a.period≤255
 count:0≤a.count∧a.count≤255
 bit:0≤a.bit∧a.bit≤1
 len:0≤a.len∧a.len≤31
theorem Zi3 {a:ApuM}:ZhI a.t=true↔ApuP a:=by
 unfold ZhI ApuM.t
 simp only[Bool.and_eq_true,Zbd]
 constructor
 ·rintro ⟨a,b,c,d,e⟩;exact ⟨a,b,c,d,e⟩
 ·rintro ⟨a,b,c,d,e⟩;exact ⟨a,b,c,d,e⟩
structure Zmu (l:List Int):Prop where
 len:l.length≤20
 bytes:Zby l
theorem ZfN {l:List Int}:Zfd l=true↔Zmu l:=by
 unfold Zfd
 rw[Bool.and_eq_true,Zd0,ZeU]
 exact ⟨fun ⟨a,b⟩=>⟨by omega,b⟩,fun ⟨a,b⟩=>⟨by omega,b⟩⟩
def PadP (x:PadM):Prop:=0≤x.shift∧x.shift≤255
structure Zlv where
 img:List (List Int)
 pads:List Int
 mem:MemM
 cpu:CpuM
 ppu:PpuM
 apu:ApuM
 pad:PadM
 nmi:Bool
 steps:Int
 frames:List (List Int)
 samples:List Int
 reads:List Int
def Zlv.t (l:Zlv):Tup ZoQ:=(l.img,(l.pads,(l.mem.ram,(l.mem.bank,(l.cpu.a,(l.cpu.x,(l.cpu.s,(l.cpu.pc,(l.cpu.z,(l.cpu.n,(l.cpu.c,(l.cpu.i,
 (l.ppu.T,(l.ppu.ctrl,(l.ppu.scroll,(l.ppu.addr,(l.ppu.pal,(l.ppu.blank,(l.ppu.table,(l.ppu.dots,
 (l.apu.T,(l.apu.period,(l.apu.count,(l.apu.bit,(l.apu.len,(l.apu.asks,(l.apu.irq,(l.pad.held,(l.pad.shift,(l.nmi,(l.steps,(l.frames,(l.samples,(l.reads,()))))))))))))))))))))))))))))))))))
def ZeL (t:Int):Int:=(t+15)/64
structure Zpb (l:Zlv):Prop where
 mem:MemP l.img l.mem
 pads:Zmu l.pads
 cpu:CpuP l.cpu
 ppu:PpuP l.ppu
 apu:ApuP l.apu
 pad:PadP l.pad
 t:l.apu.T=l.ppu.T
 s0:0≤l.steps
 s1:l.steps≤l.ppu.T
 fr: ∀f,f∈l.frames→f.length=48
 frn:(l.frames.length:Int)=ZeL l.ppu.T
 sam:(l.samples.length:Int)=l.ppu.T/16
theorem Zf1 {f:List (List Int)} {t:Int} (ht:0≤t):ZcQ f t=true↔(∀l,l∈f→l.length=48)∧(f.length:Int)=ZeL t:=by
 unfold ZcQ ZeL
 rw[Bool.and_eq_true,List.all_eq_true,ZdV,Int.tdiv_eq_ediv_of_nonneg (by omega)]
 constructor
 ·rintro ⟨a,b⟩;exact ⟨fun l hl=>by have:=ZdV.1 (a l hl);omega,b⟩
 ·rintro ⟨a,b⟩;exact ⟨fun l hl=>ZdV.2 (by have:=a l hl;omega),b⟩
theorem Zfh {s:List Int} {t:Int} (ht:0≤t):Zdn s t=true↔(s.length:Int)=t/16:=by
 unfold Zdn
 rw[ZdV,Int.tdiv_eq_ediv_of_nonneg ht]
theorem Zmy: ∀{f:List (List Int)},(∀l,l∈f→l.length=48)→bulk f=48*f.length
 | [],_=>rfl
 |x::f,h=>by
  simp only[bulk,List.length_cons]
  rw[Zmy fun l hl=>h l (List.mem_cons_of_mem _ hl),h x List.mem_cons_self]
  omega
theorem Zgb {f:List (List Int)} (h: ∀l,l∈f→l.length=48) (hn:f.length≤1048576):small f:=
 ⟨by omega,fun l hl=>by have:=h l hl;omega,by rw[Zmy h];omega⟩
theorem Zpb.s {l:Zlv} (h:Zpb l) (hr:l.reads.length≤4398046511104):ZoR l.t:=by
 have h1:=h.ppu.t
 have h2:=h.frn
 have h3:=h.sam
 have h4:=h.mem.ram.len
 have h5:=h.pads.len
 unfold ZeL at h2
 exact ⟨h.mem.img.small,by show l.pads.length≤_;omega,by show l.mem.1.length≤_;omega,h.ppu.s,Zgb (f:=l.frames) h.fr (by omega),by show l.samples.length≤_;omega,hr⟩
def vecN (f:List (List Int)) (x:MemM) (v:Int):Int:=Zg7 (Zgm f x v) (Zgm f x (v+1))
theorem Zpy (f:List (List Int)) (x:MemM) (v:Int):0≤vecN f x v∧vecN f x v≤65535:=ZoM _ _
abbrev Rc:=Int×Int×Int
def RcP (x:Rc):Prop:=(0≤x.1∧x.1≤20000)∧(0≤x.2.1∧x.2.1≤7)∧(0≤x.2.2∧x.2.2≤255)
structure Zkg (cap:Int) (l:List Rc):Prop where
 rec': ∀x,x∈l→RcP x
 ord:l.Pairwise (fun a b=>a.1≤b.1)
 c0:1≤cap
 c1:cap≤16
 len:(l.length:Int)≤cap
theorem ZkJ {l:List Rc} (h: ∀i,(hi:i+1<l.length)→l[i].1≤l[i+1].1):l.Pairwise (fun a b=>a.1≤b.1):=by
 rw[List.pairwise_iff_getElem]
 intro i j hi hj hij
 induction j with
 |zero=>omega
 |succ j ih=>
  rcases Nat.lt_or_ge i j with h1|h1
  ·exact Int.le_trans (ih (by omega) h1) (h j hj)
  ·have:i=j:=by omega
   subst this
   exact h i hj
theorem Zcw {r:Tup Zb5}:ZcW r=true↔Zkg r.1 r.2.1:=by
 unfold ZcW
 rw[Bool.and_eq_true,Bool.and_eq_true,List.all_eq_true,Zbd,Zd0]
 have hg: ∀i,(hi:i<r.2.1.length)→rdE .t r.2.1 (i:Int)=r.2.1[i]:=fun i hi=>Zaq .t r.2.1 i hi
 constructor
 ·rintro ⟨h,⟨c0,c1⟩,hl⟩
  have key: ∀i,(hi:i<r.2.1.length)→RcP r.2.1[i]∧(i≠0→ ¬(r.2.1[i]).1< (rdE .t r.2.1 ((i-1:Nat):Int)).1):=fun i hi=>by
   have:=h i (by rw[List.mem_range'];exact ⟨i,hi,by omega⟩)
   unfold Zd4 at this
   rw[hg i hi]at this
   simp only[Bool.and_eq_true,Zbd,Bool.or_eq_true,decide_eq_true_eq,Bool.not_eq_true']at this
   obtain ⟨a,b,c,d⟩:=this
   refine ⟨⟨a,b,c⟩,fun h0=> ?_⟩
   rcases d with d|d
   ·exact absurd d h0
   ·intro hlt
    rw[show ltI (r.2.1[i]).1 (rdE .t r.2.1 ((i-1:Nat):Int)).1=true from Zal hlt]at d
    cases d
  refine ⟨fun x hx=> ?_,ZkJ fun i hi=> ?_,c0,c1,hl⟩
  ·obtain ⟨i,hi,rfl⟩:=List.getElem_of_mem hx
   exact (key i hi).1
  ·have:=(key (i+1) hi).2 (by omega)
   rw[Nat.add_sub_cancel,hg i (by omega)]at this
   omega
 ·rintro ⟨h,ho,c0,c1,hl⟩
  refine ⟨fun i hi=> ?_,⟨c0,c1⟩,hl⟩
  rw[List.mem_range']at hi
  obtain ⟨j,hj,e⟩:=hi
  have hi:i<r.2.1.length:=by omega
  unfold Zd4
  rw[hg i hi]
  obtain ⟨a,b,c⟩:=h _ (List.getElem_mem hi)
  simp only[Bool.and_eq_true,Zbd,Bool.or_eq_true,decide_eq_true_eq,Bool.not_eq_true']
  refine ⟨a,b,c,?_⟩
  by_cases h0:i=0
  ·exact .inl h0
  ·right
   rw[hg (i-1) (by omega)]
   have:=List.pairwise_iff_getElem.1 ho (i-1) i (by omega) hi (by omega)
   exact Zar (by omega)
theorem ZcU {r:Tup Zb5} {t:Int} (h:r.2.1.Pairwise (fun a b=>a.1≤b.1)):ZcT r t=true↔ ∀x,x∈r.2.1→t≤x.1:=by
 unfold ZcT
 obtain ⟨cap,l,_⟩:=r
 simp only at h⊢
 cases l with
 |nil=>simp
 |cons y l=>
  simp only[List.length_cons,Nat.add_one_ne_zero,if_false]
  rw[show rdE .t (y::l) (0:Int)=y from rfl,Zd0]
  constructor
  ·intro h1 x hx
   cases hx with
   |head=>exact h1
   |tail _ hx=>exact Int.le_trans h1 ((List.pairwise_cons.1 h).1 x hx)
  ·intro h1;exact h1 y List.mem_cons_self
theorem ZcV {r:Tup Zb5} {t:Int} (h:r.2.1.Pairwise (fun a b=>a.1≤b.1)):Zca r t=true↔ ∀x,x∈r.2.1→x.1≤t:=by
 unfold Zca
 obtain ⟨cap,l,_⟩:=r
 simp only at h⊢
 by_cases h0:l.length=0
 ·have:l=[]:=List.eq_nil_of_length_eq_zero h0
  subst this
  simp
 ·rw[if_neg h0,Zaq .t l (l.length-1) (by omega),Zd0]
  constructor
  ·intro h1 x hx
   obtain ⟨i,hi,rfl⟩:=List.getElem_of_mem hx
   rcases Nat.lt_or_ge i (l.length-1)with h2|h2
   ·exact Int.le_trans (List.pairwise_iff_getElem.1 h i (l.length-1) hi (by omega) h2) h1
   ·have:i=l.length-1:=by omega
    subst this
    exact h1
  ·intro h1;exact h1 _ (List.getElem_mem _)
structure PicM where
 ppu:PpuM
 cap:Int
 list:List Rc
 frames:List (List Int)
structure SndM where
 apu:ApuM
 cap:Int
 list:List Rc
 samples:List Int
def PicM.t (w:PicM):Tup picL:=(w.ppu.T,(w.ppu.ctrl,(w.ppu.scroll,(w.ppu.addr,(w.ppu.pal,(w.ppu.blank,(w.ppu.table,(w.ppu.dots,(w.cap,(w.list,(w.frames,())))))))))))
def SndM.t (w:SndM):Tup sndL:=(w.apu.T,(w.apu.period,(w.apu.count,(w.apu.bit,(w.apu.len,(w.apu.asks,(w.apu.irq,(w.cap,(w.list,(w.samples,()))))))))))
structure PicP (w:PicM):Prop where
 ppu:PpuP w.ppu
 ring:Zkg w.cap w.list
 lo: ∀x,x∈w.list→w.ppu.T≤x.1
 fr: ∀f,f∈w.frames→f.length=48
 frn:(w.frames.length:Int)=ZeL w.ppu.T
structure SndP (w:SndM):Prop where
 apu:ApuP w.apu
 ring:Zkg w.cap w.list
 lo: ∀x,x∈w.list→w.apu.T≤x.1
 sam:(w.samples.length:Int)=w.apu.T/16
theorem ZjH {w:PicM}:ZhS w.t=true↔PicP w:=by
 unfold ZhS
 simp only[Bool.and_eq_true]
 constructor
 ·rintro ⟨a,b,c,d⟩
  have a:=ZjJ.1 (show Zgn w.ppu.t=true from a)
  have b:=Zcw.1 b
  have d:=(Zf1 a.t.1).1 (show ZcQ w.frames w.ppu.T=true from d)
  exact ⟨a,b,(ZcU b.ord).1 c,d.1,d.2⟩
 ·rintro ⟨a,b,c,d,e⟩
  exact ⟨ZjJ.2 a,Zcw.2 b,(ZcU (r:=(w.cap,(w.list,()))) b.ord).2 c,(Zf1 a.t.1).2 ⟨d,e⟩⟩
theorem ZjS {w:SndM}:ZhV w.t=true↔SndP w:=by
 unfold ZhV
 simp only[Bool.and_eq_true]
 constructor
 ·rintro ⟨a,b,c,d⟩
  have a:=Zi3.1 (show ZhI w.apu.t=true from a)
  have b:=Zcw.1 b
  have d:=(Zfh a.t.1).1 (show Zdn w.samples w.apu.T=true from d)
  exact ⟨a,b,(ZcU b.ord).1 c,d⟩
 ·rintro ⟨a,b,c,d⟩
  exact ⟨Zi3.2 a,Zcw.2 b,(ZcU (r:=(w.cap,(w.list,()))) b.ord).2 c,(Zfh a.t.1).2 d⟩
theorem PicP.s {w:PicM} (h:PicP w):Zga w.t:=by
 have h1:=h.ppu.t
 have h2:=h.frn
 have h3:=h.ring.len
 have h4:=h.ring.c1
 unfold ZeL at h2
 exact ⟨h.ppu.s,by show w.list.length≤_;omega,Zgb (f:=w.frames) h.fr (by omega)⟩
theorem SndP.s {w:SndM} (h:SndP w):Zgc w.t:=by
 have h1:=h.apu.t
 have h2:=h.sam
 have h3:=h.ring.len
 have h4:=h.ring.c1
 exact ⟨by show w.list.length≤_;omega,by show w.samples.length≤_;omega⟩
theorem Zkg.tail {cap:Int} {x:Rc} {l:List Rc} (h:Zkg cap (x::l)):Zkg cap l:=
 ⟨fun y hy=>h.rec' y (List.mem_cons_of_mem _ hy),(List.pairwise_cons.1 h.ord).2,h.c0,h.c1,by have:=h.len;simp only[List.length_cons]at this;omega⟩
structure ZdP where
 img:List (List Int)
 pads:List Int
 mem:MemM
 cpu:CpuM
 pad:PadM
 T:Int
 nmi:Bool
 ctrl:Int
 known:Bool
 knownAt:Int
 steps:Int
 reads:List Int
 pic:PicM
 snd:SndM
def ZdP.t (s:ZdP):Tup Zbb:=(s.img,(s.pads,(s.mem.ram,(s.mem.bank,(s.cpu.a,(s.cpu.x,(s.cpu.s,(s.cpu.pc,(s.cpu.z,(s.cpu.n,(s.cpu.c,(s.cpu.i,(s.pad.held,(s.pad.shift,
 (s.T,(s.nmi,(s.ctrl,(s.known,(s.knownAt,(s.steps,(s.reads,
 (s.pic.ppu.T,(s.pic.ppu.ctrl,(s.pic.ppu.scroll,(s.pic.ppu.addr,(s.pic.ppu.pal,(s.pic.ppu.blank,(s.pic.ppu.table,(s.pic.ppu.dots,(s.pic.cap,(s.pic.list,(s.pic.frames,s.snd.t))))))))))))))))))))))))))))))))
structure Zk2 (s:ZdP):Prop where
 mem:MemP s.img s.mem
 pads:Zmu s.pads
 cpu:CpuP s.cpu
 pic:PicP s.pic
 snd:SndP s.snd
 pad:PadP s.pad
 ctrl:0≤s.ctrl∧s.ctrl≤255
 t:0≤s.T∧s.T≤20000
 known:0≤s.knownAt∧s.knownAt≤s.T
 steps:0≤s.steps∧s.steps≤s.T
 pt:s.pic.ppu.T≤s.T
 st:s.snd.apu.T≤s.T
 pl: ∀x,x∈s.pic.list→x.1≤s.T
 sl: ∀x,x∈s.snd.list→x.1≤s.T
theorem Zhx {s:ZdP}:ZcI s.t=true↔Zk2 s:=by
 unfold ZcI Zem Zgx Zgw
 simp only[Bool.and_eq_true,Zbd]
 constructor
 ·rintro ⟨⟨a,b,c,d,e⟩,⟨f,g,h,i,j⟩,k,l,m,n⟩
  have d:=ZjH.1 (show ZhS s.pic.t=true from d)
  have e:=ZjS.1 (show ZhV s.snd.t=true from e)
  exact ⟨Zd2.1 a,ZfN.1 b,Zi8.1 c,d,e,f,g,h,i,j,Zd0.1 k,Zd0.1 l,(ZcV d.ring.ord).1 m,(ZcV e.ring.ord).1 n⟩
 ·rintro ⟨a,b,c,d,e,f,g,h,i,j,k,l,m,n⟩
  exact ⟨⟨Zd2.2 a,ZfN.2 b,Zi8.2 c,ZjH.2 d,ZjS.2 e⟩,⟨f,g,h,i,j⟩,Zd0.2 k,Zd0.2 l,(ZcV (r:=(s.pic.cap,(s.pic.list,()))) d.ring.ord).2 m,(ZcV (r:=(s.snd.cap,(s.snd.list,()))) e.ring.ord).2 n⟩
theorem Zk2.s {s:ZdP} (h:Zk2 s) (hr:s.reads.length≤4398046511104):Zbt s.t:=by
 have h4:=h.mem.ram.len
 have h5:=h.pads.len
 exact ⟨h.mem.img.small,by show s.pads.length≤_;omega,by show s.mem.1.length≤_;omega,hr,h.pic.s,h.snd.s⟩

end Go.Proofs.YtmlahgmhbdpkjaaGreatDoor.Plain
