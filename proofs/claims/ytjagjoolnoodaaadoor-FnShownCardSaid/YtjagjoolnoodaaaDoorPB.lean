/- Plain laws of the printed functions: UnitM, LockM, SplitM. No condition beyond those that each lemma states. -/
import Derived.Test.YtjagjoolnoodaaaDoorPA
set_option linter.unusedVariables false
set_option linter.unusedSimpArgs false
namespace Go.Proofs.YtjagjoolnoodaaaDoor.Plain
open Go Go.Tev
def ColP (l:List Int):Prop:= ∀n,n∈l→0≤n∧n≤63
structure PpuP (p:PpuM):Prop where
 t:0≤p.T∧p.T≤20000
 ctrl:0≤p.ctrl∧p.ctrl≤255
 scroll:0≤p.scroll∧p.scroll≤255
 addr:0≤p.addr∧p.addr≤15
 pal:0≤p.pal∧p.pal≤63
 len:p.table.length=16
 table:ColP p.table
 dots:(p.dots.length:Int)=if 48<p.T%64 then 0 else p.T%64
 cols:ColP p.dots
theorem PpuP.s {p:PpuM} (h:PpuP p):ppuOkS p.t:=by
 have h1:=h.len
 have h2:=h.dots
 refine ⟨by show p.table.length≤_;omega,?_⟩
 show p.dots.length≤_
 split at h2<;>omega
theorem ColP.set {l:List Int} (h:ColP l) (i:Nat) {v:Int} (hv:0≤v∧v≤63):ColP (l.set i v):=fun n hn=>by
 rcases List.mem_or_eq_of_mem_set hn with h1|h1
 ·exact h n h1
 ·rw[h1];exact hv
structure ApuP (a:ApuM):Prop where
 t:0≤a.T∧a.T≤20000
 period:0≤a.period∧a.period≤255
 count:0≤a.count∧a.count≤255
 bit:0≤a.bit∧a.bit≤1
 len:0≤a.len∧a.len≤31
structure PadsP (l:List Int):Prop where
 len:l.length≤20
 bytes:BytesP l
def PadP (x:PadM):Prop:=0≤x.shift∧x.shift≤255
structure LockM where
 img:List (List Int)
 pads:List Int
 mem:MemM
 cpu:CpuM
 ppu:PpuM
 apu:ApuM
 pad:PadM
 nmi:Bool
 steps:Int
 frames:List (List Int)
 samples:List Int
 reads:List Int
def LockM.t (l:LockM):Tup lockL:=(l.img,(l.pads,(l.mem.ram,(l.mem.bank,(l.cpu.a,(l.cpu.x,(l.cpu.s,(l.cpu.pc,(l.cpu.z,(l.cpu.n,(l.cpu.c,(l.cpu.i,
 (l.ppu.T,(l.ppu.ctrl,(l.ppu.scroll,(l.ppu.addr,(l.ppu.pal,(l.ppu.blank,(l.ppu.table,(l.ppu.dots,
 (l.apu.T,(l.apu.period,(l.apu.count,(l.apu.bit,(l.apu.len,(l.apu.asks,(l.apu.irq,(l.pad.held,(l.pad.shift,(l.nmi,(l.steps,(l.frames,(l.samples,(l.reads,()))))))))))))))))))))))))))))))))))
def framesN (t:Int):Int:=(t+15)/64
structure LockP (l:LockM):Prop where
 mem:MemP l.img l.mem
 pads:PadsP l.pads
 cpu:CpuP l.cpu
 ppu:PpuP l.ppu
 apu:ApuP l.apu
 pad:PadP l.pad
 t:l.apu.T=l.ppu.T
 s0:0≤l.steps
 s1:l.steps≤l.ppu.T
 fr: ∀f,f∈l.frames→f.length=48
 frn:(l.frames.length:Int)=framesN l.ppu.T
 sam:(l.samples.length:Int)=l.ppu.T/16
theorem bulk_48: ∀{f:List (List Int)},(∀l,l∈f→l.length=48)→bulk f=48*f.length
 | [],_=>rfl
 |x::f,h=>by
  simp only[bulk,List.length_cons]
  rw[bulk_48 fun l hl=>h l (List.mem_cons_of_mem _ hl),h x List.mem_cons_self]
  omega
theorem small_frames {f:List (List Int)} (h: ∀l,l∈f→l.length=48) (hn:f.length≤1048576):small f:=
 ⟨by omega,fun l hl=>by have:=h l hl;omega,by rw[bulk_48 h];omega⟩
theorem LockP.s {l:LockM} (h:LockP l) (hr:l.reads.length≤4398046511104):lockOkS l.t:=by
 have h1:=h.ppu.t
 have h2:=h.frn
 have h3:=h.sam
 have h4:=h.mem.ram.len
 have h5:=h.pads.len
 unfold framesN at h2
 exact ⟨h.mem.img.small,by show l.pads.length≤_;omega,by show l.mem.1.length≤_;omega,h.ppu.s,small_frames (f:=l.frames) h.fr (by omega),by show l.samples.length≤_;omega,hr⟩
abbrev Rc:=Int×Int×Int
def RcP (x:Rc):Prop:=(0≤x.1∧x.1≤20000)∧(0≤x.2.1∧x.2.1≤7)∧(0≤x.2.2∧x.2.2≤255)
structure RingP (cap:Int) (l:List Rc):Prop where
 rec': ∀x,x∈l→RcP x
 ord:l.Pairwise (fun a b=>a.1≤b.1)
 c0:1≤cap
 c1:cap≤16
 len:(l.length:Int)≤cap
structure PicM where
 ppu:PpuM
 cap:Int
 list:List Rc
 frames:List (List Int)
structure SndM where
 apu:ApuM
 cap:Int
 list:List Rc
 samples:List Int
def PicM.t (w:PicM):Tup picL:=(w.ppu.T,(w.ppu.ctrl,(w.ppu.scroll,(w.ppu.addr,(w.ppu.pal,(w.ppu.blank,(w.ppu.table,(w.ppu.dots,(w.cap,(w.list,(w.frames,())))))))))))
def SndM.t (w:SndM):Tup sndL:=(w.apu.T,(w.apu.period,(w.apu.count,(w.apu.bit,(w.apu.len,(w.apu.asks,(w.apu.irq,(w.cap,(w.list,(w.samples,()))))))))))
structure PicP (w:PicM):Prop where
 ppu:PpuP w.ppu
 ring:RingP w.cap w.list
 lo: ∀x,x∈w.list→w.ppu.T≤x.1
 fr: ∀f,f∈w.frames→f.length=48
 frn:(w.frames.length:Int)=framesN w.ppu.T
structure SndP (w:SndM):Prop where
 apu:ApuP w.apu
 ring:RingP w.cap w.list
 lo: ∀x,x∈w.list→w.apu.T≤x.1
 sam:(w.samples.length:Int)=w.apu.T/16
theorem PicP.s {w:PicM} (h:PicP w):picOkS w.t:=by
 have h1:=h.ppu.t
 have h2:=h.frn
 have h3:=h.ring.len
 have h4:=h.ring.c1
 unfold framesN at h2
 exact ⟨h.ppu.s,by show w.list.length≤_;omega,small_frames (f:=w.frames) h.fr (by omega)⟩
theorem SndP.s {w:SndM} (h:SndP w):sndOkS w.t:=by
 have h1:=h.apu.t
 have h2:=h.sam
 have h3:=h.ring.len
 have h4:=h.ring.c1
 exact ⟨by show w.list.length≤_;omega,by show w.samples.length≤_;omega⟩
structure SplitM where
 img:List (List Int)
 pads:List Int
 mem:MemM
 cpu:CpuM
 pad:PadM
 T:Int
 nmi:Bool
 ctrl:Int
 known:Bool
 knownAt:Int
 steps:Int
 reads:List Int
 pic:PicM
 snd:SndM
def SplitM.t (s:SplitM):Tup splitL:=(s.img,(s.pads,(s.mem.ram,(s.mem.bank,(s.cpu.a,(s.cpu.x,(s.cpu.s,(s.cpu.pc,(s.cpu.z,(s.cpu.n,(s.cpu.c,(s.cpu.i,(s.pad.held,(s.pad.shift,
 (s.T,(s.nmi,(s.ctrl,(s.known,(s.knownAt,(s.steps,(s.reads,
 (s.pic.ppu.T,(s.pic.ppu.ctrl,(s.pic.ppu.scroll,(s.pic.ppu.addr,(s.pic.ppu.pal,(s.pic.ppu.blank,(s.pic.ppu.table,(s.pic.ppu.dots,(s.pic.cap,(s.pic.list,(s.pic.frames,s.snd.t))))))))))))))))))))))))))))))))
structure SplitP (s:SplitM):Prop where
 mem:MemP s.img s.mem
 pads:PadsP s.pads
 cpu:CpuP s.cpu
 pic:PicP s.pic
 snd:SndP s.snd
 pad:PadP s.pad
 ctrl:0≤s.ctrl∧s.ctrl≤255
 t:0≤s.T∧s.T≤20000
 known:0≤s.knownAt∧s.knownAt≤s.T
 steps:0≤s.steps∧s.steps≤s.T
 pt:s.pic.ppu.T≤s.T
 st:s.snd.apu.T≤s.T
 pl: ∀x,x∈s.pic.list→x.1≤s.T
 sl: ∀x,x∈s.snd.list→x.1≤s.T
theorem SplitP.s {s:SplitM} (h:SplitP s) (hr:s.reads.length≤4398046511104):splitOkS s.t:=by
 have h4:=h.mem.ram.len
 have h5:=h.pads.len
 exact ⟨h.mem.img.small,by show s.pads.length≤_;omega,by show s.mem.1.length≤_;omega,hr,h.pic.s,h.snd.s⟩

end Go.Proofs.YtjagjoolnoodaaaDoor.Plain
