/- Plain laws of the printed functions: Cp, Obs, Lock, Ok, Ok2, Ok3, Cpu. No condition beyond those that each lemma states. -/
import Derived.Test.YtjagjoolnoodaaaDoorX
import Derived.Test.YtjagjoolnoodaaaDoorFn0
set_option linter.unusedVariables false
set_option linter.unusedSimpArgs false
namespace Go.Proofs.YtjagjoolnoodaaaDoor.Plain
open Go Go.Tev
def bulk:List (List Int)→Nat| []=>0|l::f=>l.length+bulk f
def small (f:List (List Int)):Prop:=f.length≤4398046511104∧(∀l,l∈f→l.length≤4398046511104)∧bulk f≤4398046511104
abbrev obsL:List LT:=[.sl false .n, .sl false .i, .sl false .i]
def obsOk (a:Tup obsL):Prop:=small a.1∧a.2.1.length≤4398046511104∧a.2.2.1.length≤4398046511104
abbrev memL:List LT:=[.sl false .i, .int .i64]
abbrev cpuL:List LT:=[.int .i64, .int .i64, .int .i64, .int .i64, .bool, .bool, .bool, .bool]
abbrev ppuL:List LT:=[.int .i64, .int .i64, .int .i64, .int .i64, .int .i64, .bool, .sl false .i, .sl false .i]
abbrev apuL:List LT:=[.int .i64, .int .i64, .int .i64, .int .i64, .int .i64, .bool, .bool]
abbrev padL:List LT:=[.bool, .int .i64]
abbrev lockL:List LT:= .sl false .n:: .sl false .i::(memL++(cpuL++(ppuL++(apuL++(padL++(.bool:: .int .i64::obsL))))))
def ppuOkS (a:Tup ppuL):Prop:=a.2.2.2.2.2.2.1.length≤4398046511104∧a.2.2.2.2.2.2.2.1.length≤4398046511104
section
variable (a:Tup lockL)
abbrev lkPpu:Tup ppuL:=(a.2.2.2.2.2.2.2.2.2.2.2.2.1,(a.2.2.2.2.2.2.2.2.2.2.2.2.2.1,(a.2.2.2.2.2.2.2.2.2.2.2.2.2.2.1,(a.2.2.2.2.2.2.2.2.2.2.2.2.2.2.2.1,(a.2.2.2.2.2.2.2.2.2.2.2.2.2.2.2.2.1,(a.2.2.2.2.2.2.2.2.2.2.2.2.2.2.2.2.2.1,(a.2.2.2.2.2.2.2.2.2.2.2.2.2.2.2.2.2.2.1,(a.2.2.2.2.2.2.2.2.2.2.2.2.2.2.2.2.2.2.2.1,()))))))))
abbrev lkObs:Tup obsL:=a.2.2.2.2.2.2.2.2.2.2.2.2.2.2.2.2.2.2.2.2.2.2.2.2.2.2.2.2.2.2.2
end
def lockOkS (a:Tup lockL):Prop:=small a.1∧a.2.1.length≤4398046511104∧a.2.2.1.length≤4398046511104∧ppuOkS (lkPpu a)∧obsOk (lkObs a)
def inR (lo hi n:Int):Bool:=leI lo n&&leI n hi
theorem inR_iff {lo hi n:Int}:inR lo hi n=true↔lo≤n∧n≤hi:=by simp[inR,leI]
theorem within_ok (y:PTup i34):r34 y=some ((inR y.2.1 y.2.2.1 y.1,()),()):=by
 unfold r34 m34
 simp only[cond_and]
 rfl
theorem l1In_ok (y:PTup i28):r28 y=some ((inR y.2.1 y.2.2.1 y.1,()),()):=by
 unfold r28 m28
 simp only[cond_and]
 rfl
theorem isByte_ok (y:PTup i33):r33 y=some ((inR 0 255 y.1,()),()):=by
 unfold r33 m33
 simp only[within_ok,Option.bind_some]
theorem l5Byte_ok (y:PTup i35):r35 y=some ((inR 0 255 y.1,()),()):=by
 unfold r35 m35
 simp only[l1In_ok,Option.bind_some]
def cpuOk (c:Tup cpuL):Bool:=inR 0 255 c.1&&(inR 0 255 c.2.1&&(inR 0 255 c.2.2.1&&inR 0 65535 c.2.2.2.1))
theorem implCpuOk_ok (c:Tup cpuL):r20 (c,())=some ((cpuOk c,()),()):=by
 unfold r20 m20
 simp only[isByte_ok,within_ok,Option.bind_some,cond_and]
 rfl
theorem specCpuOk_ok (c:Tup cpuL):r21 (c,())=some ((cpuOk c,()),()):=by
 unfold r21 m21
 simp only[l5Byte_ok,l1In_ok,Option.bind_some,cond_and]
 rfl
abbrev ringL:List LT:=[.int .i64, .sl false .t]
abbrev picL:List LT:=ppuL++(ringL++[.sl false .n])
abbrev sndL:List LT:=apuL++(ringL++[.sl false .i])
abbrev pcPpu (w:Tup picL):Tup ppuL:=(w.1,(w.2.1,(w.2.2.1,(w.2.2.2.1,(w.2.2.2.2.1,(w.2.2.2.2.2.1,(w.2.2.2.2.2.2.1,(w.2.2.2.2.2.2.2.1,()))))))))
abbrev pcRing (w:Tup picL):Tup ringL:=(w.2.2.2.2.2.2.2.2.1,(w.2.2.2.2.2.2.2.2.2.1,()))
abbrev sdRing (w:Tup sndL):Tup ringL:=(w.2.2.2.2.2.2.2.1,(w.2.2.2.2.2.2.2.2.1,()))
def picOkS (w:Tup picL):Prop:=ppuOkS (pcPpu w)∧(pcRing w).2.1.length≤4398046511104∧small w.2.2.2.2.2.2.2.2.2.2.1
def sndOkS (w:Tup sndL):Prop:=(sdRing w).2.1.length≤4398046511104∧w.2.2.2.2.2.2.2.2.2.1.length≤4398046511104
abbrev splitL:List LT:= .sl false .n:: .sl false .i::(memL++(cpuL++(padL++(.int .i64:: .bool:: .int .i64:: .bool:: .int .i64:: .int .i64:: .sl false .i::(picL++sndL)))))
section
variable (s:Tup splitL)
abbrev spImg:List (List Int):=s.1
abbrev spPads:List Int:=s.2.1
abbrev spMem:Tup memL:=(s.2.2.1,(s.2.2.2.1,()))
abbrev spReads:List Int:=s.2.2.2.2.2.2.2.2.2.2.2.2.2.2.2.2.2.2.2.2.1
abbrev spPic:Tup picL:=(s.2.2.2.2.2.2.2.2.2.2.2.2.2.2.2.2.2.2.2.2.2.1,(s.2.2.2.2.2.2.2.2.2.2.2.2.2.2.2.2.2.2.2.2.2.2.1,(s.2.2.2.2.2.2.2.2.2.2.2.2.2.2.2.2.2.2.2.2.2.2.2.1,(s.2.2.2.2.2.2.2.2.2.2.2.2.2.2.2.2.2.2.2.2.2.2.2.2.1,(s.2.2.2.2.2.2.2.2.2.2.2.2.2.2.2.2.2.2.2.2.2.2.2.2.2.1,(s.2.2.2.2.2.2.2.2.2.2.2.2.2.2.2.2.2.2.2.2.2.2.2.2.2.2.1,(s.2.2.2.2.2.2.2.2.2.2.2.2.2.2.2.2.2.2.2.2.2.2.2.2.2.2.2.1,(s.2.2.2.2.2.2.2.2.2.2.2.2.2.2.2.2.2.2.2.2.2.2.2.2.2.2.2.2.1,(s.2.2.2.2.2.2.2.2.2.2.2.2.2.2.2.2.2.2.2.2.2.2.2.2.2.2.2.2.2.1,(s.2.2.2.2.2.2.2.2.2.2.2.2.2.2.2.2.2.2.2.2.2.2.2.2.2.2.2.2.2.2.1,(s.2.2.2.2.2.2.2.2.2.2.2.2.2.2.2.2.2.2.2.2.2.2.2.2.2.2.2.2.2.2.2.1,())))))))))))
abbrev spSnd:Tup sndL:=s.2.2.2.2.2.2.2.2.2.2.2.2.2.2.2.2.2.2.2.2.2.2.2.2.2.2.2.2.2.2.2.2
end
def splitOkS (s:Tup splitL):Prop:=small (spImg s)∧(spPads s).length≤4398046511104∧(spMem s).1.length≤4398046511104∧(spReads s).length≤4398046511104∧picOkS (spPic s)∧sndOkS (spSnd s)
structure MemM where
 ram:List Int
 bank:Int
structure CpuM where
 a:Int
 x:Int
 s:Int
 pc:Int
 z:Bool
 n:Bool
 c:Bool
 i:Bool
structure PpuM where
 T:Int
 ctrl:Int
 scroll:Int
 addr:Int
 pal:Int
 blank:Bool
 table:List Int
 dots:List Int
structure ApuM where
 T:Int
 period:Int
 count:Int
 bit:Int
 len:Int
 asks:Bool
 irq:Bool
structure PadM where
 held:Bool
 shift:Int
def MemM.t (x:MemM):Tup memL:=(x.ram,(x.bank,()))
def CpuM.t (c:CpuM):Tup cpuL:=(c.a,(c.x,(c.s,(c.pc,(c.z,(c.n,(c.c,(c.i,()))))))))
def PpuM.t (p:PpuM):Tup ppuL:=(p.T,(p.ctrl,(p.scroll,(p.addr,(p.pal,(p.blank,(p.table,(p.dots,()))))))))
def ApuM.t (a:ApuM):Tup apuL:=(a.T,(a.period,(a.count,(a.bit,(a.len,(a.asks,(a.irq,())))))))
def PadM.t (x:PadM):Tup padL:=(x.held,(x.shift,()))
def BytesP (l:List Int):Prop:= ∀n,n∈l→0≤n∧n≤255
structure ImgP (f:List (List Int)):Prop where
 banks: ∀b,b∈f→b.length=256∧BytesP b
 lo:1≤f.length
 hi:f.length≤8
structure RamP (x:MemM):Prop where
 len:x.ram.length=512
 bytes:BytesP x.ram
structure MemP (f:List (List Int)) (x:MemM):Prop where
 img:ImgP f
 ram:RamP x
 b0:0≤x.bank
 b1:x.bank< (f.length:Int)
structure CpuP (c:CpuM):Prop where
 a:0≤c.a∧c.a≤255
 x:0≤c.x∧c.x≤255
 s:0≤c.s∧c.s≤255
 pc:0≤c.pc∧c.pc≤65535
theorem ImgP.small {f:List (List Int)} (h:ImgP f):small f:=by
 have key: ∀g:List (List Int),(∀b,b∈g→b.length=256)→bulk g=256*g.length:=by
  intro g
  induction g with
  |nil=>intro _;rfl
  |cons b g ih=>
   intro hb
   simp only[bulk,List.length_cons]
   rw[ih (fun b hg=>hb b (List.mem_cons_of_mem _ hg)),hb b List.mem_cons_self]
   omega
 have hi:=h.hi
 refine ⟨by omega,fun l hl=> ?_,?_⟩
 ·have:=(h.banks l hl).1;omega
 ·rw[key f fun b hb=>(h.banks b hb).1];omega
def wfT (c:CpuM) (f:Int):CpuM:={c with z:=neI (bAnd .i64 f 2) 0,n:=neI (bAnd .i64 f 128) 0,c:=neI (bAnd .i64 f 1) 0,i:=neI (bAnd .i64 f 4) 0}
theorem specWithFlags_ok (c:CpuM) (f:Int):r46 (c.t,(f,()))=some (((wfT c f).t,()),()):=rfl
theorem tmod_nn {a b:Int} (h:0≤a):Int.tmod a b=a%b:=Int.tmod_eq_emod_of_nonneg h
theorem rdE_mem {e:E} {l:List e.C} {i:Int} (h0:0≤i) (h1:i< (l.length:Int)):rdE e l i∈l:=by
 have:i.toNat<l.length:=by omega
 rw[show rdE e l i=l[i.toNat] by simp[rdE,List.getD,this]]
 exact List.getElem_mem _
theorem BytesP.set {l:List Int} (h:BytesP l) (i:Nat) {v:Int} (hv:0≤v∧v≤255):BytesP (l.set i v):=fun n hn=>by
 rcases List.mem_or_eq_of_mem_set hn with h1|h1
 ·exact h n h1
 ·rw[h1];exact hv

end Go.Proofs.YtjagjoolnoodaaaDoor.Plain
