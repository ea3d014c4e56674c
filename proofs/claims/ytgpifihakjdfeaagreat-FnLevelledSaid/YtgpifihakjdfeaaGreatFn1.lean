/- Plain functions that the program's functions answer as; their contracts. Printed by a program of the proofs' writer. No condition. -/
import Derived.Test.YtgpifihakjdfeaaGreatW5
import Derived.KernelRfl
import Derived.Test.YtgpifihakjdfeaaGreatFn0
set_option linter.unusedVariables false
set_option linter.unusedSimpArgs false
set_option maxRecDepth 100000
namespace Go.Proofs.YtgpifihakjdfeaaGreat.Plain
open Go Go.Tev
abbrev i232:Ts:=[.a q11]
abbrev o232:Ts:=[.v (.bool)]
abbrev F232:=FT i232 o232
abbrev g232:=mkG 232 i232 o232
noncomputable def m232 (y:PTup i232):Option (PTup o232×BTup i232):=
  bif (eqI y.1.2.2.2.2.2.2.2.2.2.2.2.2.2.2.2.2.2.2.2.2.2.1 y.1.2.2.2.2.2.2.2.2.2.2.2.2.2.2.1)then (some (((eqI (lenI y.1.2.2.2.2.2.2.2.2.2.2.2.2.2.2.2.2.2.2.2.2.2.2.2.2.2.2.2.2.2.2.1) 0),()),()))
  else no
theorem s232 (y):TE [] Tryz.f232 i232 o232 y=m232 y:=by kernel_rfl
noncomputable def r232:F232:=m232
theorem k232:KO (g232 r232):=fk (s232) trivial (by kernel_rfl)
abbrev i233:Ts:=[.v (.int .i64)]
abbrev o233:Ts:=[.v (.int .i64)]
abbrev F233:=FT i233 o233
abbrev g233:=mkG 233 i233 o233
noncomputable def m233 (c116:F116) (y:PTup i233):Option (PTup o233×BTup i233):=
  (c116 (y.1,((0:Int),((29:Int),())))).bind fun r0=>
  bif (!r0.1.1)then (some (((2:Int),()),()))
  else bif (leI 0 y.1)then (bif (ltI y.1 (lenI ((2:Int)::((2:Int)::((4:Int)::((4:Int)::((2:Int)::((2:Int)::((2:Int)::((2:Int)::((2:Int)::((2:Int)::((2:Int)::((2:Int)::((2:Int)::((2:Int)::((4:Int)::((5:Int)::((3:Int)::((3:Int)::((3:Int)::((3:Int)::((6:Int)::((6:Int)::((3:Int)::((4:Int)::((6:Int)::((2:Int)::((2:Int)::((2:Int)::((2:Int)::((4:Int)::[]))))))))))))))))))))))))))))))))then (some (((rdE .i ((2:Int)::((2:Int)::((4:Int)::((4:Int)::((2:Int)::((2:Int)::((2:Int)::((2:Int)::((2:Int)::((2:Int)::((2:Int)::((2:Int)::((2:Int)::((2:Int)::((4:Int)::((5:Int)::((3:Int)::((3:Int)::((3:Int)::((3:Int)::((6:Int)::((6:Int)::((3:Int)::((4:Int)::((6:Int)::((2:Int)::((2:Int)::((2:Int)::((2:Int)::((4:Int)::[])))))))))))))))))))))))))))))) y.1),()),()))
   else none)
  else none
theorem s233 (c116:F116) (y):TE [g116 c116] Tryz.f233 i233 o233 y=m233 c116 y:=by kernel_rfl
noncomputable def r233:F233:=m233 r116
theorem k233:KO (g233 r233):=fk (s233 r116) ⟨k116,⟨⟩⟩ (by kernel_rfl)
abbrev i194:Ts:=[.a q11]
abbrev o194:Ts:=[.v (.int .i64)]
abbrev R194:=Option (PTup o194×BTup i194)
abbrev F194:=PTup i194→R194
abbrev g194:=mkG 194 i194 o194
noncomputable def m194 (c231:F231) (c227:F227) (c230:F230) (c233:F233) (c176:F176) (c229:F229) (c226:F226) (c232:F232) (c228:F228) (y:PTup i194):R194:=
  let a0:=y.1;let a1:=a0.2;let a2:=a1.2;let a3:=a2.2;let a4:=a3.2;let a5:=a4.2;let a6:=a5.2;let a7:=a6.2;let a8:=a7.2;let a9:=a8.2;let a10:=a9.2;let a11:=a10.2;let a12:=a11.2;let a13:=a12.2;let a14:=a13.2;let a15:=a14.2;let a16:=a15.2;let a17:=a16.2;let a18:=a17.2;let a19:=a18.2;let a20:=a19.2;let a21:=a20.2;let a22:=a21.2;let a23:=a22.2;let a24:=a23.2;let a25:=a24.2;let a26:=a25.2;let a27:=a26.2;let a28:=a27.2;let a29:=a28.2;let a30:=a29.1;let a31:=a29.2;let a32:=a31.1;let a33:=a31.2;let a34:=a33.2;let a35:=a34.2;let a36:=a35.2;let a37:=a36.2;let a38:=a37.2;let a39:=a38.2;let a40:=a39.2;let a41:=a40.2;let a42:=a41.2.1;bif a15.1 then ((c226 (a0,((7:Int),()))).bind fun r0=>some (r0.1,()))else bif (!a11.1)then ((c227 (a18.1,(a14.1,()))).bind fun r0=>bif r0.1.1 then ((c228 (a0,())).bind fun r1=>bif (!r1.1.1)then (some (((2:Int),()),()))else (c229 (a0,())).bind fun r2=>bif r2.1.1 then ((c226 (a0,((7:Int),()))).bind fun r3=>some (r3.1,()))else (c230 ((a0.1,()),((a2.1,(a3.1,())),(a7.1,())))).bind fun r3=>let X0:R194:=bif (eqI (lenI a42) a41.1)then (some (((4:Int),()),()))else (c233 (r3.1.1.1,())).bind fun r7=>(c226 (a0,r7.1)).bind fun r8=>some (r8.1,());let X1:R194:=bif (eqI (lenI a42) a41.1)then (some (((4:Int),()),()))else (c233 (r3.1.1.1,())).bind fun r6=>(c226 (a0,r6.1)).bind fun r7=>some (r7.1,());let X2:R194:=(c233 (r3.1.1.1,())).bind fun r7=>(c226 (a0,r7.1)).bind fun r8=>some (r8.1,());let X3:R194:=(c233 (r3.1.1.1,())).bind fun r6=>(c226 (a0,r6.1)).bind fun r7=>some (r7.1,());let X4:R194:=(c233 (r3.1.1.1,())).bind fun r8=>(c226 (a0,r8.1)).bind fun r9=>some (r9.1,());let X5:R194:=bif (eqI (lenI a42) a41.1)then (some (((4:Int),()),()))else X4;(c231 (r3.1.1,((a4.1,(a5.1,(a6.1,(a7.1,(a8.1,(a9.1,(a10.1,(a11.1,())))))))),()))).bind fun r4=>(c176 (r4.1.2.1,())).bind fun r5=>let X6:R194:=bif (eqI r4.1.1 1)then (bif (eqI r5.1.1 3)then ((c228 (a0,())).bind fun r6=>let X9:R194:=bif (eqI r4.1.1 2)then (bif (eqI r5.1.1 3)then X0 else X2)else X2;bif (!r6.1.1)then (some (((2:Int),()),()))else bif (eqI r4.1.1 2)then (bif (eqI r5.1.1 2)then (bif (eqI (lenI a32) a30)then (some (((3:Int),()),()))else X9)else X9)else X9)else bif (eqI r4.1.1 2)then (bif (eqI r5.1.1 2)then (bif (eqI (lenI a32) a30)then (some (((3:Int),()),()))else bif (eqI r4.1.1 2)then (bif (eqI r5.1.1 3)then X1 else X3)else X3)else bif (eqI r4.1.1 2)then (bif (eqI r5.1.1 3)then X1 else X3)else X3)else bif (eqI r4.1.1 2)then (bif (eqI r5.1.1 3)then X1 else X3)else X3)else bif (eqI r4.1.1 2)then (bif (eqI r5.1.1 2)then (bif (eqI (lenI a32) a30)then (some (((3:Int),()),()))else bif (eqI r4.1.1 2)then (bif (eqI r5.1.1 3)then X1 else X3)else X3)else bif (eqI r4.1.1 2)then (bif (eqI r5.1.1 3)then X1 else X3)else X3)else bif (eqI r4.1.1 2)then (bif (eqI r5.1.1 3)then X1 else X3)else X3;let X7:R194:=bif (eqI r4.1.1 2)then (bif (eqI r5.1.1 2)then (bif (eqI (lenI a32) a30)then (some (((3:Int),()),()))else bif (eqI r4.1.1 2)then (bif (eqI r5.1.1 3)then X0 else X2)else X2)else bif (eqI r4.1.1 2)then (bif (eqI r5.1.1 3)then X0 else X2)else X2)else bif (eqI r4.1.1 2)then (bif (eqI r5.1.1 3)then X0 else X2)else X2;let X8:R194:=bif (eqI r4.1.1 2)then (bif (eqI r5.1.1 3)then X5 else X4)else X4;bif (eqI r4.1.1 1)then (bif (eqI r5.1.1 2)then ((c232 (a0,())).bind fun r6=>bif (!r6.1.1)then (some (((1:Int),()),()))else bif (eqI r4.1.1 1)then (bif (eqI r5.1.1 3)then ((c228 (a0,())).bind fun r7=>bif (!r7.1.1)then (some (((2:Int),()),()))else bif (eqI r4.1.1 2)then (bif (eqI r5.1.1 2)then (bif (eqI (lenI a32) a30)then (some (((3:Int),()),()))else X8)else X8)else X8)else X7)else X7)else X6)else X6)else (c229 (a0,())).bind fun r1=>bif r1.1.1 then ((c226 (a0,((7:Int),()))).bind fun r2=>some (r2.1,()))else (c230 ((a0.1,()),((a2.1,(a3.1,())),(a7.1,())))).bind fun r2=>let X10:R194:=bif (eqI (lenI a42) a41.1)then (some (((4:Int),()),()))else (c233 (r2.1.1.1,())).bind fun r6=>(c226 (a0,r6.1)).bind fun r7=>some (r7.1,());let X11:R194:=bif (eqI (lenI a42) a41.1)then (some (((4:Int),()),()))else (c233 (r2.1.1.1,())).bind fun r5=>(c226 (a0,r5.1)).bind fun r6=>some (r6.1,());let X12:R194:=(c233 (r2.1.1.1,())).bind fun r6=>(c226 (a0,r6.1)).bind fun r7=>some (r7.1,());let X13:R194:=(c233 (r2.1.1.1,())).bind fun r5=>(c226 (a0,r5.1)).bind fun r6=>some (r6.1,());let X14:R194:=(c233 (r2.1.1.1,())).bind fun r7=>(c226 (a0,r7.1)).bind fun r8=>some (r8.1,());let X15:R194:=bif (eqI (lenI a42) a41.1)then (some (((4:Int),()),()))else X14;(c231 (r2.1.1,((a4.1,(a5.1,(a6.1,(a7.1,(a8.1,(a9.1,(a10.1,(a11.1,())))))))),()))).bind fun r3=>(c176 (r3.1.2.1,())).bind fun r4=>let X16:R194:=bif (eqI r3.1.1 1)then (bif (eqI r4.1.1 3)then ((c228 (a0,())).bind fun r5=>let X19:R194:=bif (eqI r3.1.1 2)then (bif (eqI r4.1.1 3)then X10 else X12)else X12;bif (!r5.1.1)then (some (((2:Int),()),()))else bif (eqI r3.1.1 2)then (bif (eqI r4.1.1 2)then (bif (eqI (lenI a32) a30)then (some (((3:Int),()),()))else X19)else X19)else X19)else bif (eqI r3.1.1 2)then (bif (eqI r4.1.1 2)then (bif (eqI (lenI a32) a30)then (some (((3:Int),()),()))else bif (eqI r3.1.1 2)then (bif (eqI r4.1.1 3)then X11 else X13)else X13)else bif (eqI r3.1.1 2)then (bif (eqI r4.1.1 3)then X11 else X13)else X13)else bif (eqI r3.1.1 2)then (bif (eqI r4.1.1 3)then X11 else X13)else X13)else bif (eqI r3.1.1 2)then (bif (eqI r4.1.1 2)then (bif (eqI (lenI a32) a30)then (some (((3:Int),()),()))else bif (eqI r3.1.1 2)then (bif (eqI r4.1.1 3)then X11 else X13)else X13)else bif (eqI r3.1.1 2)then (bif (eqI r4.1.1 3)then X11 else X13)else X13)else bif (eqI r3.1.1 2)then (bif (eqI r4.1.1 3)then X11 else X13)else X13;let X17:R194:=bif (eqI r3.1.1 2)then (bif (eqI r4.1.1 2)then (bif (eqI (lenI a32) a30)then (some (((3:Int),()),()))else bif (eqI r3.1.1 2)then (bif (eqI r4.1.1 3)then X10 else X12)else X12)else bif (eqI r3.1.1 2)then (bif (eqI r4.1.1 3)then X10 else X12)else X12)else bif (eqI r3.1.1 2)then (bif (eqI r4.1.1 3)then X10 else X12)else X12;let X18:R194:=bif (eqI r3.1.1 2)then (bif (eqI r4.1.1 3)then X15 else X14)else X14;bif (eqI r3.1.1 1)then (bif (eqI r4.1.1 2)then ((c232 (a0,())).bind fun r5=>bif (!r5.1.1)then (some (((1:Int),()),()))else bif (eqI r3.1.1 1)then (bif (eqI r4.1.1 3)then ((c228 (a0,())).bind fun r6=>bif (!r6.1.1)then (some (((2:Int),()),()))else bif (eqI r3.1.1 2)then (bif (eqI r4.1.1 2)then (bif (eqI (lenI a32) a30)then (some (((3:Int),()),()))else X18)else X18)else X18)else X17)else X17)else X16)else X16)else (c230 ((a0.1,()),((a2.1,(a3.1,())),(a7.1,())))).bind fun r0=>let X20:R194:=bif (eqI (lenI a42) a41.1)then (some (((4:Int),()),()))else (c233 (r0.1.1.1,())).bind fun r4=>(c226 (a0,r4.1)).bind fun r5=>some (r5.1,());let X21:R194:=bif (eqI (lenI a42) a41.1)then (some (((4:Int),()),()))else (c233 (r0.1.1.1,())).bind fun r3=>(c226 (a0,r3.1)).bind fun r4=>some (r4.1,());let X22:R194:=(c233 (r0.1.1.1,())).bind fun r4=>(c226 (a0,r4.1)).bind fun r5=>some (r5.1,());let X23:R194:=(c233 (r0.1.1.1,())).bind fun r3=>(c226 (a0,r3.1)).bind fun r4=>some (r4.1,());let X24:R194:=(c233 (r0.1.1.1,())).bind fun r5=>(c226 (a0,r5.1)).bind fun r6=>some (r6.1,());let X25:R194:=bif (eqI (lenI a42) a41.1)then (some (((4:Int),()),()))else X24;(c231 (r0.1.1,((a4.1,(a5.1,(a6.1,(a7.1,(a8.1,(a9.1,(a10.1,(a11.1,())))))))),()))).bind fun r1=>(c176 (r1.1.2.1,())).bind fun r2=>let X26:R194:=bif (eqI r1.1.1 1)then (bif (eqI r2.1.1 3)then ((c228 (a0,())).bind fun r3=>let X29:R194:=bif (eqI r1.1.1 2)then (bif (eqI r2.1.1 3)then X20 else X22)else X22;bif (!r3.1.1)then (some (((2:Int),()),()))else bif (eqI r1.1.1 2)then (bif (eqI r2.1.1 2)then (bif (eqI (lenI a32) a30)then (some (((3:Int),()),()))else X29)else X29)else X29)else bif (eqI r1.1.1 2)then (bif (eqI r2.1.1 2)then (bif (eqI (lenI a32) a30)then (some (((3:Int),()),()))else bif (eqI r1.1.1 2)then (bif (eqI r2.1.1 3)then X21 else X23)else X23)else bif (eqI r1.1.1 2)then (bif (eqI r2.1.1 3)then X21 else X23)else X23)else bif (eqI r1.1.1 2)then (bif (eqI r2.1.1 3)then X21 else X23)else X23)else bif (eqI r1.1.1 2)then (bif (eqI r2.1.1 2)then (bif (eqI (lenI a32) a30)then (some (((3:Int),()),()))else bif (eqI r1.1.1 2)then (bif (eqI r2.1.1 3)then X21 else X23)else X23)else bif (eqI r1.1.1 2)then (bif (eqI r2.1.1 3)then X21 else X23)else X23)else bif (eqI r1.1.1 2)then (bif (eqI r2.1.1 3)then X21 else X23)else X23;let X27:R194:=bif (eqI r1.1.1 2)then (bif (eqI r2.1.1 2)then (bif (eqI (lenI a32) a30)then (some (((3:Int),()),()))else bif (eqI r1.1.1 2)then (bif (eqI r2.1.1 3)then X20 else X22)else X22)else bif (eqI r1.1.1 2)then (bif (eqI r2.1.1 3)then X20 else X22)else X22)else bif (eqI r1.1.1 2)then (bif (eqI r2.1.1 3)then X20 else X22)else X22;let X28:R194:=bif (eqI r1.1.1 2)then (bif (eqI r2.1.1 3)then X25 else X24)else X24;bif (eqI r1.1.1 1)then (bif (eqI r2.1.1 2)then ((c232 (a0,())).bind fun r3=>bif (!r3.1.1)then (some (((1:Int),()),()))else bif (eqI r1.1.1 1)then (bif (eqI r2.1.1 3)then ((c228 (a0,())).bind fun r4=>bif (!r4.1.1)then (some (((2:Int),()),()))else bif (eqI r1.1.1 2)then (bif (eqI r2.1.1 2)then (bif (eqI (lenI a32) a30)then (some (((3:Int),()),()))else X28)else X28)else X28)else X27)else X27)else X26)else X26
theorem s194 (c231:F231) (c227:F227) (c230:F230) (c233:F233) (c176:F176) (c229:F229) (c226:F226) (c232:F232) (c228:F228) (y):TE [g231 c231,g227 c227,g230 c230,g233 c233,g176 c176,g229 c229,g226 c226,g232 c232,g228 c228] Tryz.f194 i194 o194 y=m194 c231 c227 c230 c233 c176 c229 c226 c232 c228 y:=by kernel_rfl
noncomputable def r194:F194:=m194 r231 r227 r230 r233 r176 r229 r226 r232 r228
theorem k194:KO (g194 r194):=fk (s194 r231 r227 r230 r233 r176 r229 r226 r232 r228) ⟨k231,k227,k230,k233,k176,k229,k226,k232,k228,⟨⟩⟩ (by kernel_rfl)
abbrev i63:Ts:=[.v (.bool)]
abbrev o63:Ts:=[.v (.int .i64)]
abbrev F63:=FT i63 o63
abbrev g63:=mkG 63 i63 o63
noncomputable def m63 (y:PTup i63):Option (PTup o63×BTup i63):=
  bif y.1 then (some (((1:Int),()),()))
  else some (((0:Int),()),())
theorem s63 (y):TE [] Tryz.f63 i63 o63 y=m63 y:=by kernel_rfl
noncomputable def r63:F63:=m63
theorem k63:KO (g63 r63):=fk (s63) trivial (by kernel_rfl)
abbrev i259:Ts:=[.a q4]
abbrev o259:Ts:=[.v (.int .i64)]
abbrev F259:=FT i259 o259
abbrev g259:=mkG 259 i259 o259
noncomputable def m259 (c63:F63) (y:PTup i259):Option (PTup o259×BTup i259):=
  (c63 (y.1.2.2.2.2.2.2.1,())).bind fun r0=>
  (c63 (y.1.2.2.2.2.1,())).bind fun r1=>
  (c63 y.1.2.2.2.2.2.2.2).bind fun r2=>
  (c63 (y.1.2.2.2.2.2.1,())).bind fun r3=>
  some (((wI ((wI ((wI (r0.1.1+(wI ((2:Int)*r1.1.1))))+(wI ((4:Int)*r2.1.1))))+(wI ((128:Int)*r3.1.1)))),()),())
theorem s259 (c63:F63) (y):TE [g63 c63] Tryz.f259 i259 o259 y=m259 c63 y:=by kernel_rfl
noncomputable def r259:F259:=m259 r63
theorem k259:KO (g259 r259):=fk (s259 r63) ⟨k63,⟨⟩⟩ (by kernel_rfl)
abbrev i260:Ts:=[.a q3, .a q4, .v (.int .i64)]
abbrev o260:Ts:=[.a q2, .a q4]
abbrev F260:=FT i260 o260
abbrev g260:=mkG 260 i260 o260
noncomputable def m260 (c215:F215) (c139:F139) (y:PTup i260):Option (PTup o260×BTup i260):=
  (c139 (y.1,())).bind fun r0=>
  bif (neI (lenI y.1.1) 512)then (some ((r0.1.1,(y.2.1,())),()))
  else (c215 (y.2.1.2.2.1,())).bind fun r1=>
  (c215 y.2.2).bind fun r2=>
  bif (leI 0 (wI ((256:Int)+r1.1.1)))then (bif (ltI (wI ((256:Int)+r1.1.1)) (lenI r0.1.1.1))then ((c215 ((wI (y.2.1.2.2.1-1)),())).bind fun r3=>
    some ((((List.set r0.1.1.1 (Int.toNat (wI ((256:Int)+r1.1.1))) r2.1.1),r0.1.1.2),((y.2.1.1,(y.2.1.2.1,(r3.1.1,y.2.1.2.2.2))),())),()))
   else none)
  else none
theorem s260 (c215:F215) (c139:F139) (y):TE [g215 c215,g139 c139] Tryz.f260 i260 o260 y=m260 c215 c139 y:=by kernel_rfl
noncomputable def r260:F260:=m260 r215 r139
theorem k260:KO (g260 r260):=fk (s260 r215 r139) ⟨k215,k139,⟨⟩⟩ (by kernel_rfl)
abbrev i234:Ts:=[.a q1, .a q3, .a q4, .v (.int .i64)]
abbrev o234:Ts:=[.a q2, .a q4]
abbrev F234:=FT i234 o234
abbrev g234:=mkG 234 i234 o234
noncomputable def m234 (c259:F259) (c163:F163) (c164:F164) (c260:F260) (c139:F139) (y:PTup i234):Option (PTup o234×BTup i234):=
  (c139 (y.2.1,())).bind fun r0=>
  (c259 (y.2.2.1,())).bind fun r1=>
  (c260 (r0.1.1,(y.2.2.1,((Int.fdiv y.2.2.1.2.2.2.1 ((2:Int)^(Min.min (Int.toNat (8:Int)) (64:Nat)))),())))).bind fun r2=>
  (c260 (r2.1.1,(r2.1.2.1,(r2.1.2.1.2.2.2.1,())))).bind fun r3=>
  (c260 (r3.1.1,(r3.1.2.1,r1.1))).bind fun r4=>
  (c164 (y.1,(r4.1.1,y.2.2.2))).bind fun r5=>
  (c164 (y.1,(r4.1.1,((wI (y.2.2.2.1+1)),())))).bind fun r6=>
  (c163 (r5.1.1,r6.1)).bind fun r7=>
  some ((r4.1.1,((r4.1.2.1.1,(r4.1.2.1.2.1,(r4.1.2.1.2.2.1,(r7.1.1,(r4.1.2.1.2.2.2.2.1,(r4.1.2.1.2.2.2.2.2.1,(r4.1.2.1.2.2.2.2.2.2.1,(true,())))))))),())),())
theorem s234 (c259:F259) (c163:F163) (c164:F164) (c260:F260) (c139:F139) (y):TE [g259 c259,g163 c163,g164 c164,g260 c260,g139 c139] Tryz.f234 i234 o234 y=m234 c259 c163 c164 c260 c139 y:=by kernel_rfl
noncomputable def r234:F234:=m234 r259 r163 r164 r260 r139
theorem k234:KO (g234 r234):=fk (s234 r259 r163 r164 r260 r139) ⟨k259,k163,k164,k260,k139,⟨⟩⟩ (by kernel_rfl)
abbrev i235:Ts:=[.a q12, .v (.bool)]
abbrev o235:Ts:=[.a q12]
abbrev F235:=FT i235 o235
abbrev g235:=mkG 235 i235 o235
noncomputable def m235 (y:PTup i235):Option (PTup o235×BTup i235):=
  some (((y.1.1,(y.1.2.1,(y.1.2.2.1,(y.1.2.2.2.1,(y.1.2.2.2.2.1,(y.1.2.2.2.2.2.1,(y.1.2.2.2.2.2.2.1,(y.1.2.2.2.2.2.2.2.1,(y.1.2.2.2.2.2.2.2.2.1,(y.1.2.2.2.2.2.2.2.2.2.1,(y.1.2.2.2.2.2.2.2.2.2.2.1,(y.1.2.2.2.2.2.2.2.2.2.2.2.1,(y.1.2.2.2.2.2.2.2.2.2.2.2.2.1,(y.1.2.2.2.2.2.2.2.2.2.2.2.2.2.1,(y.1.2.2.2.2.2.2.2.2.2.2.2.2.2.2.1,(y.1.2.2.2.2.2.2.2.2.2.2.2.2.2.2.2.1,(y.1.2.2.2.2.2.2.2.2.2.2.2.2.2.2.2.2.1,(y.2.1,(y.1.2.2.2.2.2.2.2.2.2.2.2.2.2.2.1,y.1.2.2.2.2.2.2.2.2.2.2.2.2.2.2.2.2.2.2.2))))))))))))))))))),()),())
theorem s235 (y):TE [] Tryz.f235 i235 o235 y=m235 y:=by kernel_rfl
noncomputable def r235:F235:=m235
theorem k235:KO (g235 r235):=fk (s235) trivial (by kernel_rfl)
abbrev i177:Ts:=[.a q6, .v (.int .i64)]
abbrev o177:Ts:=[.a q5, .v (.int .i64)]
abbrev F177:=FT i177 o177
abbrev g177:=mkG 177 i177 o177
noncomputable def m177 (c113:F113) (c63:F63) (c156:F156) (y:PTup i177):Option (PTup o177×BTup i177):=
  (c156 (y.1,())).bind fun r0=>
  (c113 (y.1,())).bind fun r1=>
  bif (!r1.1.1)then (some ((r0.1.1,((0:Int),())),()))
  else bif (eqI y.2.1 2)then ((c63 (y.1.2.2.2.2.2.1,())).bind fun r2=>
   some (((r0.1.1.1,(r0.1.1.2.1,(r0.1.1.2.2.1,(r0.1.1.2.2.2.1,(r0.1.1.2.2.2.2.1,(false,r0.1.1.2.2.2.2.2.2)))))),((wI ((128:Int)*r2.1.1)),())),()))
  else bif (eqI y.2.1 4)then (bif (leI 0 y.1.2.2.2.1)then (bif (ltI y.1.2.2.2.1 (lenI y.1.2.2.2.2.2.2.1))then (some (((r0.1.1.1,(r0.1.1.2.1,(r0.1.1.2.2.1,((Int.tmod (wI (y.1.2.2.2.1+1)) (16:Int)),r0.1.1.2.2.2.2)))),((rdE .i y.1.2.2.2.2.2.2.1 y.1.2.2.2.1),())),()))
    else none)
   else none)
  else some ((r0.1.1,((0:Int),())),())
theorem s177 (c113:F113) (c63:F63) (c156:F156) (y):TE [g113 c113,g63 c63,g156 c156] Tryz.f177 i177 o177 y=m177 c113 c63 c156 y:=by kernel_rfl
noncomputable def r177:F177:=m177 r113 r63 r156
theorem k177:KO (g177 r177):=fk (s177 r113 r63 r156) ⟨k113,k63,k156,⟨⟩⟩ (by kernel_rfl)
abbrev i178:Ts:=[.a q9, .v (.int .i64)]
abbrev o178:Ts:=[.a q9, .v (.int .i64)]
abbrev F178:=FT i178 o178
abbrev g178:=mkG 178 i178 o178
noncomputable def m178 (c114:F114) (c63:F63) (y:PTup i178):Option (PTup o178×BTup i178):=
  (c114 (y.1,())).bind fun r0=>
  bif (!r0.1.1)then (some ((y.1,((0:Int),())),()))
  else bif (neI y.2.1 2)then (some ((y.1,((0:Int),())),()))
  else (c63 y.1.2.2.2.2.2.2).bind fun r1=>
  (c63 ((ltI 0 y.1.2.2.2.2.1),())).bind fun r2=>
  some (((y.1.1,(y.1.2.1,(y.1.2.2.1,(y.1.2.2.2.1,(y.1.2.2.2.2.1,(y.1.2.2.2.2.2.1,(false,()))))))),((wI ((wI ((128:Int)*r1.1.1))+r2.1.1)),())),())
theorem s178 (c114:F114) (c63:F63) (y):TE [g114 c114,g63 c63] Tryz.f178 i178 o178 y=m178 c114 c63 y:=by kernel_rfl
noncomputable def r178:F178:=m178 r114 r63
theorem k178:KO (g178 r178):=fk (s178 r114 r63) ⟨k114,k63,⟨⟩⟩ (by kernel_rfl)
abbrev i256:Ts:=[.v (.int .i64)]
abbrev o256:Ts:=[.v (.int .i64)]
abbrev F256:=FT i256 o256
abbrev g256:=mkG 256 i256 o256
noncomputable def m256 (c265:F265) (y:PTup i256):Option (PTup o256×BTup i256):=
  (c265 (y.1,((0:Int),()))).bind fun r0=>
  some (((wI (Int.tdiv r0.1.1 64)),()),())
theorem s256 (c265:F265) (y):TE [g265 c265] Tryz.f256 i256 o256 y=m256 c265 y:=by kernel_rfl
noncomputable def r256:F256:=m256 r265
theorem k256:KO (g256 r256):=fk (s256 r265) ⟨k265,⟨⟩⟩ (by kernel_rfl)
abbrev i224:Ts:=[.v (.sl false .i), .v (.int .i64)]
abbrev o224:Ts:=[.v (.int .i64)]
abbrev F224:=FT i224 o224
abbrev g224:=mkG 224 i224 o224
noncomputable def m224 (c256:F256) (c110:F110) (y:PTup i224):Option (PTup o224×BTup i224):=
  (c110 (y.1,())).bind fun r0=>
  bif (!r0.1.1)then (some (((0:Int),()),()))
  else bif (eqI (lenI y.1) 0)then (some (((0:Int),()),()))
  else (c256 y.2).bind fun r1=>
  bif (neI (lenI y.1) 0)then (bif (leI 0 (Int.tmod r1.1.1 (lenI y.1)))then (bif (ltI (Int.tmod r1.1.1 (lenI y.1)) (lenI y.1))then (some (((rdE .i y.1 (Int.tmod r1.1.1 (lenI y.1))),()),()))
    else none)
   else none)
  else none
theorem s224 (c256:F256) (c110:F110) (y):TE [g256 c256,g110 c110] Tryz.f224 i224 o224 y=m224 c256 c110 y:=by kernel_rfl
noncomputable def r224:F224:=m224 r256 r110
theorem k224:KO (g224 r224):=fk (s224 r256 r110) ⟨k256,k110,⟨⟩⟩ (by kernel_rfl)
abbrev i179:Ts:=[.a q16, .v (.sl false .i), .v (.int .i64)]
abbrev o179:Ts:=[.a q16, .v (.int .i64)]
abbrev F179:=FT i179 o179
abbrev g179:=mkG 179 i179 o179
noncomputable def m179 (c224:F224) (y:PTup i179):Option (PTup o179×BTup i179):=
  bif y.1.1 then ((c224 y.2).bind fun r0=>
   some (((y.1.1,r0.1),((bAnd Go.IntKind.i64 r0.1.1 (1:Int)),())),()))
  else some (((y.1.1,((Int.fdiv y.1.2.1 ((2:Int)^(Min.min (Int.toNat (1:Int)) (64:Nat)))),())),((bAnd Go.IntKind.i64 y.1.2.1 (1:Int)),())),())
theorem s179 (c224:F224) (y):TE [g224 c224] Tryz.f179 i179 o179 y=m179 c224 y:=by kernel_rfl
noncomputable def r179:F179:=m179 r224
theorem k179:KO (g179 r179):=fk (s179 r224) ⟨k224,⟨⟩⟩ (by kernel_rfl)
abbrev i236:Ts:=[.a q12, .v (.int .i64)]
abbrev o236:Ts:=[.a q12, .v (.int .i64)]
abbrev F236:=FT i236 o236
abbrev g236:=mkG 236 i236 o236
noncomputable def m236 (c178:F178) (c179:F179) (c177:F177) (c176:F176) (c235:F235) (c180:F180) (y:PTup i236):Option (PTup o236×BTup i236):=
  let a0:=y.1;let a1:=a0.2;let a2:=a1.2;let a3:=a2.2;let a4:=a3.2;let a5:=a4.2;let a6:=a5.2;let a7:=a6.2;let a8:=a7.2;let a9:=a8.2;let a10:=a9.2;let a11:=a10.2;let a12:=a11.2;let a13:=a12.2;let a14:=a13.2;let a15:=a14.2;let a16:=a15.2;let a17:=a16.2;let a18:=a17.2;let a19:=a18.2;let a20:=a19.2;let a21:=a20.2;let a22:=a21.2;let a23:=a22.2;let a24:=a23.2;let a25:=a24.2;let a26:=a25.2;let a27:=a26.2;let a28:=a27.2;let a29:=a28.2;let a30:=a29.2;let a31:=a30.2;let a32:=a31.2.2;let a33:=a32.2.2;(c176 y.2).bind fun r0=>
  bif (eqI r0.1.1 2)then ((c177 ((a21.1,(a22.1,(a23.1,(a24.1,(a25.1,(a26.1,(a27.1,(a28.1,())))))))),r0.1.2)).bind fun r1=>
   bif (leN ((List.length a20.1)+(List.length (r1.1.2.1::[]))) (E.most .i))then (some (((a0.1,(a1.1,(a2.1,(a3.1,(a4.1,(a5.1,(a6.1,(a7.1,(a8.1,(a9.1,(a10.1,(a11.1,(a12.1,(a13.1,(a14.1,(a15.1,(a16.1,(a17.1,(a18.1,(a19.1,((a20.1++(r1.1.2.1::[])),(r1.1.1.1,(r1.1.1.2.1,(r1.1.1.2.2.1,(r1.1.1.2.2.2.1,(r1.1.1.2.2.2.2.1,(r1.1.1.2.2.2.2.2.1,(r1.1.1.2.2.2.2.2.2.1,(r1.1.1.2.2.2.2.2.2.2.1,a29))))))))))))))))))))))))))))),r1.1.2),()))
   else none)
  else bif (eqI r0.1.1 3)then ((c178 ((a31.2.1,(a32.1,(a32.2.1,(a33.1,(a33.2.1,(a33.2.2.1,(a33.2.2.2.1,()))))))),r0.1.2)).bind fun r1=>
   bif (eqI r0.1.2.1 2)then ((c235 ((a0.1,(a1.1,(a2.1,(a3.1,(a4.1,(a5.1,(a6.1,(a7.1,(a8.1,(a9.1,(a10.1,(a11.1,(a12.1,(a13.1,(a14.1,(a15.1,(a16.1,(a17.1,(a18.1,(a19.1,(a20.1,(a21.1,(a22.1,(a23.1,(a24.1,(a25.1,(a26.1,(a27.1,(a28.1,(a29.1,(a30.1,(a31.1,(r1.1.1.1,(r1.1.1.2.1,(r1.1.1.2.2.1,(r1.1.1.2.2.2.1,(r1.1.1.2.2.2.2.1,(r1.1.1.2.2.2.2.2.1,(r1.1.1.2.2.2.2.2.2.1,a33.2.2.2.2))))))))))))))))))))))))))))))))))))))),(false,()))).bind fun r2=>let f0:=r2.1;let f1:=f0.1;let f2:=f1.2;let f3:=f2.2;let f4:=f3.2;let f5:=f4.2;let f6:=f5.2;let f7:=f6.2;let f8:=f7.2;let f9:=f8.2;let f10:=f9.2.2;let f11:=f10.2;let f12:=f11.2;let f13:=f12.2;let f14:=f13.2.2;let f15:=f14.2.2;bif (leN ((List.length f15.2.2.2.1)+(List.length (r1.1.2.1::[]))) (E.most .i))then (some (((f1.1,(f2.1,(f3.1,(f4.1,(f5.1,(f6.1,(f7.1,(f8.1,(f9.1,(f9.2.1,(f10.1,(f11.1,(f12.1,(f13.1,(f13.2.1,(f14.1,(f14.2.1,(f15.1,(f15.2.1,(f15.2.2.1,((f15.2.2.2.1++(r1.1.2.1::[])),f15.2.2.2.2))))))))))))))))))))),r1.1.2),()))
    else none)
   else bif (leN ((List.length a20.1)+(List.length (r1.1.2.1::[]))) (E.most .i))then (some (((a0.1,(a1.1,(a2.1,(a3.1,(a4.1,(a5.1,(a6.1,(a7.1,(a8.1,(a9.1,(a10.1,(a11.1,(a12.1,(a13.1,(a14.1,(a15.1,(a16.1,(a17.1,(a18.1,(a19.1,((a20.1++(r1.1.2.1::[])),(a21.1,(a22.1,(a23.1,(a24.1,(a25.1,(a26.1,(a27.1,(a28.1,(a29.1,(a30.1,(a31.1,(r1.1.1.1,(r1.1.1.2.1,(r1.1.1.2.2.1,(r1.1.1.2.2.2.1,(r1.1.1.2.2.2.2.1,(r1.1.1.2.2.2.2.2.1,(r1.1.1.2.2.2.2.2.2.1,a33.2.2.2.2))))))))))))))))))))))))))))))))))))))),r1.1.2),()))
   else none)
  else bif (eqI r0.1.1 4)then ((c179 ((a12.1,(a13.1,())),(a1.1,(a14.1,())))).bind fun r1=>
   bif (leN ((List.length a20.1)+(List.length (r1.1.2.1::[]))) (E.most .i))then (some (((a0.1,(a1.1,(a2.1,(a3.1,(a4.1,(a5.1,(a6.1,(a7.1,(a8.1,(a9.1,(a10.1,(a11.1,(r1.1.1.1,(r1.1.1.2.1,(a14.1,(a15.1,(a16.1,(a17.1,(a18.1,(a19.1,((a20.1++(r1.1.2.1::[])),a21))))))))))))))))))))),r1.1.2),()))
   else none)
  else (c180 ((a0.1,()),((a2.1,(a3.1,())),y.2))).bind fun r1=>
  some ((a0,r1.1),())
theorem s236 (c178:F178) (c179:F179) (c177:F177) (c176:F176) (c235:F235) (c180:F180) (y):TE [g178 c178,g179 c179,g177 c177,g176 c176,g235 c235,g180 c180] Tryz.f236 i236 o236 y=m236 c178 c179 c177 c176 c235 c180 y:=by kernel_rfl
noncomputable def r236:F236:=m236 r178 r179 r177 r176 r235 r180
theorem k236:KO (g236 r236):=fk (s236 r178 r179 r177 r176 r235 r180) ⟨k178,k179,k177,k176,k235,k180,⟨⟩⟩ (by kernel_rfl)
abbrev i190:Ts:=[.a q16, .v (.sl false .i), .v (.int .i64), .v (.int .i64)]
abbrev o190:Ts:=[.a q16]
abbrev F190:=FT i190 o190
abbrev g190:=mkG 190 i190 o190
noncomputable def m190 (c224:F224) (y:PTup i190):Option (PTup o190×BTup i190):=
  bif y.1.1 then ((c224 (y.2.1,(y.2.2.1,()))).bind fun r0=>
   some ((((eqI (bAnd Go.IntKind.i64 y.2.2.2.1 (1:Int)) (1:Int)),r0.1),()),()))
  else bif (eqI (bAnd Go.IntKind.i64 y.2.2.2.1 (1:Int)) (1:Int))then ((c224 (y.2.1,(y.2.2.1,()))).bind fun r0=>
   some ((((eqI (bAnd Go.IntKind.i64 y.2.2.2.1 (1:Int)) (1:Int)),r0.1),()),()))
  else some ((((eqI (bAnd Go.IntKind.i64 y.2.2.2.1 (1:Int)) (1:Int)),y.1.2),()),())
theorem s190 (c224:F224) (y):TE [g224 c224] Tryz.f190 i190 o190 y=m190 c224 y:=by kernel_rfl
noncomputable def r190:F190:=m190 r224
theorem k190:KO (g190 r190):=fk (s190 r224) ⟨k224,⟨⟩⟩ (by kernel_rfl)
abbrev i191:Ts:=[.a q1, .a q3, .v (.int .i64), .v (.int .i64)]
abbrev o191:Ts:=[.a q2]
abbrev R191:=Option (PTup o191×BTup i191)
abbrev F191:=PTup i191→R191
abbrev g191:=mkG 191 i191 o191
noncomputable def m191 (c215:F215) (c111:F111) (c176:F176) (c139:F139) (y:PTup i191):R191:=
  (c139 (y.2.1,())).bind fun r0=>let X0:R191:=(c215 y.2.2.2).bind fun r3=>bif (neI (lenI y.1.1) 0)then (some (((r0.1.1.1,((Int.tmod r3.1.1 (lenI y.1.1)),())),()),()))else none;(c111 (y.1,(y.2.1,()))).bind fun r1=>bif (!r1.1.1)then (some ((r0.1.1,()),()))else (c176 (y.2.2.1,())).bind fun r2=>bif (eqI r2.1.1 1)then ((c215 y.2.2.2).bind fun r3=>bif (leI 0 r2.1.2.1)then (bif (ltI r2.1.2.1 (lenI r0.1.1.1))then (some ((((List.set r0.1.1.1 (Int.toNat r2.1.2.1) r3.1.1),r0.1.1.2),()),()))else none)else none)else bif (eqI r2.1.1 5)then (bif (eqI r2.1.1 5)then X0 else some ((r0.1.1,()),()))else bif (eqI r2.1.1 6)then X0 else some ((r0.1.1,()),())
theorem s191 (c215:F215) (c111:F111) (c176:F176) (c139:F139) (y):TE [g215 c215,g111 c111,g176 c176,g139 c139] Tryz.f191 i191 o191 y=m191 c215 c111 c176 c139 y:=by kernel_rfl
noncomputable def r191:F191:=m191 r215 r111 r176 r139
theorem k191:KO (g191 r191):=fk (s191 r215 r111 r176 r139) ⟨k215,k111,k176,k139,⟨⟩⟩ (by kernel_rfl)
abbrev i237:Ts:=[.a q12, .v (.int .i64), .v (.int .i64)]
abbrev o237:Ts:=[.a q12]
abbrev R237:=Option (PTup o237×BTup i237)
abbrev F237:=PTup i237→R237
abbrev g237:=mkG 237 i237 o237
noncomputable def m237 (c190:F190) (c191:F191) (c176:F176) (c235:F235) (y:PTup i237):R237:=
  let a0:=y.1;let a1:=a0.2;let a2:=y.2.2;let a3:=a1.2;let a4:=a3.2;let a5:=a4.2;let a6:=a5.2;let a7:=a6.2;let a8:=a7.2;let a9:=a8.2;let a10:=a9.2;let a11:=a10.2;let a12:=a11.2;let a13:=a12.2;let a14:=a13.2;let a15:=a14.2;let a16:=a15.1;let a17:=a15.2;let a18:=a17.2;let a19:=a18.2;let a20:=a19.2;let a21:=a20.2;let a22:=a21.2;let a23:=a22.2;let a24:=a23.2;let a25:=a24.2;let a26:=a25.2;let a27:=a26.2;let a28:=a27.2;let a29:=a28.2;let a30:=a29.2;let a31:=a30.2;let a32:=a31.2;let a33:=a32.2;let a34:=a33.2;let a35:=a34.2;let a36:=a35.2;let a37:=a36.2;let a38:=a37.2;let a39:=a38.2;let a40:=a39.2.2;(c176 (y.2.1,())).bind fun r0=>let X0:R237:=(c235 ((a0.1,(a1.1,(a3.1,(a4.1,(a5.1,(a6.1,(a7.1,(a8.1,(a9.1,(a10.1,(a11.1,(a12.1,(a13.1,(a14.1,(a16,(a17.1,(a18.1,(a19.1,(a20.1,(a21.1,(a22.1,(a23.1,(a24.1,(a25.1,(a26.1,(a27.1,(a28.1,(a29.1,(a30.1,(a31.1,(a32.1,(a33.1,(a34.1,(a35.1,(a36.1,(a37.1,(a38.1,(a39.1,(a39.2.1,(a40.1,((a40.2.1++((a16,(r0.1.2.1,a2.1))::[])),a40.2.2))))))))))))))))))))))))))))))))))))))))),(false,()))).bind fun r1=>some ((r1.1.1,()),());let X1:R237:=some (((a0.1,(a1.1,(a3.1,(a4.1,(a5.1,(a6.1,(a7.1,(a8.1,(a9.1,(a10.1,(a11.1,(a12.1,(a13.1,(a14.1,(a16,(a17.1,(a18.1,(a19.1,(a20.1,(a21.1,(a22.1,(a23.1,(a24.1,(a25.1,(a26.1,(a27.1,(a28.1,(a29.1,(a30.1,(a31.1,(a32.1,(a33.1,(a34.1,(a35.1,(a36.1,(a37.1,(a38.1,(a39.1,(a39.2.1,(a40.1,((a40.2.1++((a16,(r0.1.2.1,a2.1))::[])),a40.2.2))))))))))))))))))))))))))))))))))))))))),()),());bif (eqI r0.1.1 2)then (bif (leN ((List.length a32.1)+(List.length ((a16,(r0.1.2.1,a2.1))::[]))) (E.most .t))then (bif (eqI r0.1.2.1 0)then (some (((a0.1,(a1.1,(a3.1,(a4.1,(a5.1,(a6.1,(a7.1,(a8.1,(a9.1,(a10.1,(a11.1,(a12.1,(a13.1,(a14.1,(a16,(a17.1,(a2.1,(a19.1,(a20.1,(a21.1,(a22.1,(a23.1,(a24.1,(a25.1,(a26.1,(a27.1,(a28.1,(a29.1,(a30.1,(a31.1,((a32.1++((a16,(r0.1.2.1,a2.1))::[])),a33))))))))))))))))))))))))))))))),()),()))else some (((a0.1,(a1.1,(a3.1,(a4.1,(a5.1,(a6.1,(a7.1,(a8.1,(a9.1,(a10.1,(a11.1,(a12.1,(a13.1,(a14.1,(a16,(a17.1,(a18.1,(a19.1,(a20.1,(a21.1,(a22.1,(a23.1,(a24.1,(a25.1,(a26.1,(a27.1,(a28.1,(a29.1,(a30.1,(a31.1,((a32.1++((a16,(r0.1.2.1,a2.1))::[])),a33))))))))))))))))))))))))))))))),()),()))else none)else bif (eqI r0.1.1 3)then (bif (leN ((List.length a40.2.1)+(List.length ((a16,(r0.1.2.1,a2.1))::[]))) (E.most .t))then (bif (eqI r0.1.2.1 3)then X0 else bif (eqI r0.1.2.1 2)then (bif (eqI (Int.tmod a2.1 2) (0:Int))then X0 else X1)else X1)else none)else bif (eqI r0.1.1 4)then ((c190 ((a13.1,(a14.1,())),(a1.1,(a16,a2)))).bind fun r1=>some (((a0.1,(a1.1,(a3.1,(a4.1,(a5.1,(a6.1,(a7.1,(a8.1,(a9.1,(a10.1,(a11.1,(a12.1,(r1.1.1.1,(r1.1.1.2.1,a15)))))))))))))),()),()))else (c191 ((a0.1,()),((a3.1,(a4.1,())),y.2))).bind fun r1=>some (((a0.1,(a1.1,(r1.1.1.1,(r1.1.1.2.1,a5)))),()),())
theorem s237 (c190:F190) (c191:F191) (c176:F176) (c235:F235) (y):TE [g190 c190,g191 c191,g176 c176,g235 c235] Tryz.f237 i237 o237 y=m237 c190 c191 c176 c235 y:=by kernel_rfl
noncomputable def r237:F237:=m237 r190 r191 r176 r235
theorem k237:KO (g237 r237):=fk (s237 r190 r191 r176 r235) ⟨k190,k191,k176,k235,⟨⟩⟩ (by kernel_rfl)
abbrev i278:Ts:=[.v (.int .i64)]
abbrev o278:Ts:=[.v (.bool), .v (.bool)]
abbrev F278:=FT i278 o278
abbrev g278:=mkG 278 i278 o278
noncomputable def m278 (c215:F215) (y:PTup i278):Option (PTup o278×BTup i278):=
  (c215 y).bind fun r0=>
  (c215 y).bind fun r1=>
  some (((eqI r0.1.1 0),((ltI 127 r1.1.1),())),())
theorem s278 (c215:F215) (y):TE [g215 c215] Tryz.f278 i278 o278 y=m278 c215 y:=by kernel_rfl
noncomputable def r278:F278:=m278 r215
theorem k278:KO (g278 r278):=fk (s278 r215) ⟨k215,⟨⟩⟩ (by kernel_rfl)
abbrev i264:Ts:=[.a q4, .v (.int .i64)]
abbrev o264:Ts:=[.a q4]
abbrev F264:=FT i264 o264
abbrev g264:=mkG 264 i264 o264
noncomputable def m264 (c215:F215) (c278:F278) (y:PTup i264):Option (PTup o264×BTup i264):=
  (c215 y.2).bind fun r0=>
  (c278 y.2).bind fun r1=>
  some (((r0.1.1,(y.1.2.1,(y.1.2.2.1,(y.1.2.2.2.1,(r1.1.1,(r1.1.2.1,y.1.2.2.2.2.2.2)))))),()),())
theorem s264 (c215:F215) (c278:F278) (y):TE [g215 c215,g278 c278] Tryz.f264 i264 o264 y=m264 c215 c278 y:=by kernel_rfl
noncomputable def r264:F264:=m264 r215 r278
theorem k264:KO (g264 r264):=fk (s264 r215 r278) ⟨k215,k278,⟨⟩⟩ (by kernel_rfl)
abbrev i282:Ts:=[.v (.int .i64), .v (.int .i64), .v (.bool)]
abbrev o282:Ts:=[.v (.int .i64), .v (.bool)]
abbrev F282:=FT i282 o282
abbrev g282:=mkG 282 i282 o282
noncomputable def m282 (c215:F215) (c63:F63) (y:PTup i282):Option (PTup o282×BTup i282):=
  (c215 (y.1,())).bind fun r0=>
  (c215 (y.2.1,())).bind fun r1=>
  (c63 y.2.2).bind fun r2=>
  (c215 ((wI ((wI (r0.1.1+r1.1.1))+r2.1.1)),())).bind fun r3=>
  some ((r3.1.1,((ltI 255 (wI ((wI (r0.1.1+r1.1.1))+r2.1.1))),())),())
theorem s282 (c215:F215) (c63:F63) (y):TE [g215 c215,g63 c63] Tryz.f282 i282 o282 y=m282 c215 c63 y:=by kernel_rfl
noncomputable def r282:F282:=m282 r215 r63
theorem k282:KO (g282 r282):=fk (s282 r215 r63) ⟨k215,k63,⟨⟩⟩ (by kernel_rfl)
abbrev i276:Ts:=[.a q4, .v (.int .i64)]
abbrev o276:Ts:=[.a q4]
abbrev F276:=FT i276 o276
abbrev g276:=mkG 276 i276 o276
noncomputable def m276 (c282:F282) (c264:F264) (y:PTup i276):Option (PTup o276×BTup i276):=
  (c282 (y.1.1,(y.2.1,(y.1.2.2.2.2.2.2.1,())))).bind fun r0=>
  (c264 (y.1,(r0.1.1,()))).bind fun r1=>
  some (((r1.1.1.1,(r1.1.1.2.1,(r1.1.1.2.2.1,(r1.1.1.2.2.2.1,(r1.1.1.2.2.2.2.1,(r1.1.1.2.2.2.2.2.1,(r0.1.2.1,r1.1.1.2.2.2.2.2.2.2))))))),()),())
theorem s276 (c282:F282) (c264:F264) (y):TE [g282 c282,g264 c264] Tryz.f276 i276 o276 y=m276 c282 c264 y:=by kernel_rfl
noncomputable def r276:F276:=m276 r282 r264
theorem k276:KO (g276 r276):=fk (s276 r282 r264) ⟨k282,k264,⟨⟩⟩ (by kernel_rfl)
abbrev i277:Ts:=[.v (.int .i64), .v (.int .i64), .v (.bool)]
abbrev o277:Ts:=[.v (.int .i64), .v (.bool)]
abbrev F277:=FT i277 o277
abbrev g277:=mkG 277 i277 o277
noncomputable def m277 (c215:F215) (c63:F63) (y:PTup i277):Option (PTup o277×BTup i277):=
  (c215 (y.1,())).bind fun r0=>
  (c215 (y.2.1,())).bind fun r1=>
  (c63 y.2.2).bind fun r2=>
  (c215 ((wI ((wI ((wI (r0.1.1-r1.1.1))-1))+r2.1.1)),())).bind fun r3=>
  some ((r3.1.1,((leI 0 (wI ((wI ((wI (r0.1.1-r1.1.1))-1))+r2.1.1))),())),())
theorem s277 (c215:F215) (c63:F63) (y):TE [g215 c215,g63 c63] Tryz.f277 i277 o277 y=m277 c215 c63 y:=by kernel_rfl
noncomputable def r277:F277:=m277 r215 r63
theorem k277:KO (g277 r277):=fk (s277 r215 r63) ⟨k215,k63,⟨⟩⟩ (by kernel_rfl)
abbrev i279:Ts:=[.a q4, .v (.int .i64)]
abbrev o279:Ts:=[.a q4]
abbrev F279:=FT i279 o279
abbrev g279:=mkG 279 i279 o279
noncomputable def m279 (c215:F215) (c278:F278) (y:PTup i279):Option (PTup o279×BTup i279):=
  (c215 y.2).bind fun r0=>
  (c278 y.2).bind fun r1=>
  some (((y.1.1,(r0.1.1,(y.1.2.2.1,(y.1.2.2.2.1,(r1.1.1,(r1.1.2.1,y.1.2.2.2.2.2.2)))))),()),())
theorem s279 (c215:F215) (c278:F278) (y):TE [g215 c215,g278 c278] Tryz.f279 i279 o279 y=m279 c215 c278 y:=by kernel_rfl
noncomputable def r279:F279:=m279 r215 r278
theorem k279:KO (g279 r279):=fk (s279 r215 r278) ⟨k215,k278,⟨⟩⟩ (by kernel_rfl)
abbrev i261:Ts:=[.a q4, .a q15, .v (.int .i64)]
abbrev o261:Ts:=[.a q4, .v (.bool)]
abbrev R261:=Option (PTup o261×BTup i261)
abbrev F261:=PTup i261→R261
abbrev g261:=mkG 261 i261 o261
noncomputable def m261 (c215:F215) (c264:F264) (c279:F279) (c278:F278) (c277:F277) (c276:F276) (y:PTup i261):R261:=
  let X0:R261:=bif (eqI y.2.1.1 4)then ((c276 (y.1,y.2.1.2)).bind fun r0=>some ((r0.1.1,(true,())),()))else bif (eqI y.2.1.1 29)then ((c276 (y.1,y.2.2)).bind fun r0=>some ((r0.1.1,(true,())),()))else bif (eqI y.2.1.1 5)then ((c277 (y.1.1,(y.2.1.2.1,(y.1.2.2.2.2.2.2.1,())))).bind fun r0=>(c264 (y.1,(r0.1.1,()))).bind fun r1=>some (((r1.1.1.1,(r1.1.1.2.1,(r1.1.1.2.2.1,(r1.1.1.2.2.2.1,(r1.1.1.2.2.2.2.1,(r1.1.1.2.2.2.2.2.1,(r0.1.2.1,r1.1.1.2.2.2.2.2.2.2))))))),(true,())),()))else bif (eqI y.2.1.1 6)then ((c215 (y.1.1,())).bind fun r0=>(c215 y.2.1.2).bind fun r1=>(c264 (y.1,((bAnd Go.IntKind.i64 r0.1.1 r1.1.1),()))).bind fun r2=>some ((r2.1.1,(true,())),()))else bif (eqI y.2.1.1 7)then ((c215 (y.1.1,())).bind fun r0=>(c215 y.2.1.2).bind fun r1=>(c264 (y.1,((bOr Go.IntKind.i64 r0.1.1 r1.1.1),()))).bind fun r2=>some ((r2.1.1,(true,())),()))else bif (eqI y.2.1.1 8)then ((c215 (y.1.1,())).bind fun r0=>(c215 y.2.1.2).bind fun r1=>(c264 (y.1,((bXor Go.IntKind.i64 r0.1.1 r1.1.1),()))).bind fun r2=>some ((r2.1.1,(true,())),()))else bif (eqI y.2.1.1 9)then ((c215 (y.1.1,())).bind fun r0=>(c215 y.2.1.2).bind fun r1=>(c278 ((wI (r0.1.1-r1.1.1)),())).bind fun r2=>(c215 (y.1.1,())).bind fun r3=>(c215 y.2.1.2).bind fun r4=>some (((y.1.1,(y.1.2.1,(y.1.2.2.1,(y.1.2.2.2.1,(r2.1.1,(r2.1.2.1,((leI r4.1.1 r3.1.1),y.1.2.2.2.2.2.2.2))))))),(true,())),()))else bif (eqI y.2.1.1 10)then ((c279 (y.1,(y.1.1,()))).bind fun r0=>some ((r0.1.1,(true,())),()))else bif (eqI y.2.1.1 11)then ((c264 (y.1,(y.1.2.1,()))).bind fun r0=>some ((r0.1.1,(true,())),()))else bif (eqI y.2.1.1 12)then ((c215 (y.1.2.1,())).bind fun r0=>(c279 (y.1,((wI (r0.1.1+1)),()))).bind fun r1=>some ((r1.1.1,(true,())),()))else bif (eqI y.2.1.1 13)then ((c215 (y.1.2.1,())).bind fun r0=>(c279 (y.1,((wI (r0.1.1-1)),()))).bind fun r1=>some ((r1.1.1,(true,())),()))else some ((y.1,(false,())),());bif (eqI y.2.1.1 1)then ((c264 (y.1,y.2.1.2)).bind fun r0=>some ((r0.1.1,(true,())),()))else bif (eqI y.2.1.1 2)then (bif (eqI y.2.1.1 2)then ((c264 (y.1,y.2.2)).bind fun r0=>some ((r0.1.1,(true,())),()))else X0)else bif (eqI y.2.1.1 14)then ((c264 (y.1,y.2.2)).bind fun r0=>some ((r0.1.1,(true,())),()))else X0
theorem s261 (c215:F215) (c264:F264) (c279:F279) (c278:F278) (c277:F277) (c276:F276) (y):TE [g215 c215,g264 c264,g279 c279,g278 c278,g277 c277,g276 c276] Tryz.f261 i261 o261 y=m261 c215 c264 c279 c278 c277 c276 y:=by kernel_rfl
noncomputable def r261:F261:=m261 r215 r264 r279 r278 r277 r276
theorem k261:KO (g261 r261):=fk (s261 r215 r264 r279 r278 r277 r276) ⟨k215,k264,k279,k278,k277,k276,⟨⟩⟩ (by kernel_rfl)
abbrev i263:Ts:=[.a q3, .a q4]
abbrev o263:Ts:=[.a q4, .v (.int .i64)]
abbrev F263:=FT i263 o263
abbrev g263:=mkG 263 i263 o263
noncomputable def m263 (c215:F215) (y:PTup i263):Option (PTup o263×BTup i263):=
  bif (neI (lenI y.1.1) 512)then (some ((y.2.1,((0:Int),())),()))
  else (c215 ((wI (y.2.1.2.2.1+1)),())).bind fun r0=>
  bif (leI 0 (wI ((256:Int)+r0.1.1)))then (bif (ltI (wI ((256:Int)+r0.1.1)) (lenI y.1.1))then ((c215 ((rdE .i y.1.1 (wI ((256:Int)+r0.1.1))),())).bind fun r1=>
    some (((y.2.1.1,(y.2.1.2.1,(r0.1.1,y.2.1.2.2.2))),r1.1),()))
   else none)
  else none
theorem s263 (c215:F215) (y):TE [g215 c215] Tryz.f263 i263 o263 y=m263 c215 y:=by kernel_rfl
noncomputable def r263:F263:=m263 r215
theorem k263:KO (g263 r263):=fk (s263 r215) ⟨k215,⟨⟩⟩ (by kernel_rfl)
abbrev i262:Ts:=[.a q3, .a q4]
abbrev o262:Ts:=[.a q4]
abbrev F262:=FT i262 o262
abbrev g262:=mkG 262 i262 o262
noncomputable def m262 (c163:F163) (c263:F263) (y:PTup i262):Option (PTup o262×BTup i262):=
  (c263 (y.1,(y.2.1,()))).bind fun r0=>
  (c263 (y.1,(r0.1.1,()))).bind fun r1=>
  (c163 (r0.1.2.1,r1.1.2)).bind fun r2=>
  some (((r1.1.1.1,(r1.1.1.2.1,(r1.1.1.2.2.1,(r2.1.1,r1.1.1.2.2.2.2)))),()),())
theorem s262 (c163:F163) (c263:F263) (y):TE [g163 c163,g263 c263] Tryz.f262 i262 o262 y=m262 c163 c263 y:=by kernel_rfl
noncomputable def r262:F262:=m262 r163 r263
theorem k262:KO (g262 r262):=fk (s262 r163 r263) ⟨k163,k263,⟨⟩⟩ (by kernel_rfl)
abbrev i251:Ts:=[.a q4, .v (.int .i64)]
abbrev o251:Ts:=[.a q4]
abbrev F251:=FT i251 o251
abbrev g251:=mkG 251 i251 o251
noncomputable def m251 (y:PTup i251):Option (PTup o251×BTup i251):=
  some (((y.1.1,(y.1.2.1,(y.1.2.2.1,(y.1.2.2.2.1,((neI (bAnd Go.IntKind.i64 y.2.1 (2:Int)) (0:Int)),((neI (bAnd Go.IntKind.i64 y.2.1 (128:Int)) (0:Int)),((neI (bAnd Go.IntKind.i64 y.2.1 (1:Int)) (0:Int)),((neI (bAnd Go.IntKind.i64 y.2.1 (4:Int)) (0:Int)),())))))))),()),())
theorem s251 (y):TE [] Tryz.f251 i251 o251 y=m251 y:=by kernel_rfl
noncomputable def r251:F251:=m251
theorem k251:KO (g251 r251):=fk (s251) trivial (by kernel_rfl)
abbrev i238:Ts:=[.a q3, .a q4, .a q15, .v (.int .i64)]
abbrev o238:Ts:=[.a q2, .a q4]
abbrev R238:=Option (PTup o238×BTup i238)
abbrev F238:=PTup i238→R238
abbrev g238:=mkG 238 i238 o238
noncomputable def m238 (c223:F223) (c257:F257) (c263:F263) (c260:F260) (c264:F264) (c251:F251) (c139:F139) (c261:F261) (c262:F262) (y:PTup i238):R238:=
  let a0:=y.2;let a1:=a0.1;let a2:=a0.2;let a3:=a1.1;let a4:=a1.2;let a5:=a2.1;let a6:=a4.1;let a7:=a4.2;let a8:=a5.1;let a9:=a7.1;let a10:=a7.2;let a11:=a10.2;let a12:=a11.2;(c139 (y.1,())).bind fun r0=>let X0:R238:=(c223 a5.2).bind fun r4=>some ((r0.1.1,((a3,(a6,(a9,(r4.1.1,a11)))),())),());(c257 (a8,())).bind fun r1=>(c223 ((wI (a10.1+r1.1.1)),())).bind fun r2=>let X1:R238:=bif (eqI a8 20)then ((c260 (r0.1.1,((a3,(a6,(a9,(r2.1.1,a11)))),((Int.fdiv r2.1.1 ((2:Int)^(Min.min (Int.toNat (8:Int)) (64:Nat)))),())))).bind fun r4=>(c260 (r4.1.1,(r4.1.2.1,(r4.1.2.1.2.2.2.1,())))).bind fun r5=>(c223 a5.2).bind fun r6=>some ((r5.1.1,((r5.1.2.1.1,(r5.1.2.1.2.1,(r5.1.2.1.2.2.1,(r6.1.1,r5.1.2.1.2.2.2.2)))),())),()))else bif (eqI a8 21)then ((c262 (y.1,((a3,(a6,(a9,(r2.1.1,a11)))),()))).bind fun r4=>some ((r0.1.1,(r4.1.1,())),()))else bif (eqI a8 22)then ((c260 (r0.1.1,((a3,(a6,(a9,(r2.1.1,a11)))),(a3,())))).bind fun r4=>some ((r4.1.1,(r4.1.2.1,())),()))else bif (eqI a8 23)then ((c263 (y.1,((a3,(a6,(a9,(r2.1.1,a11)))),()))).bind fun r4=>(c264 r4.1).bind fun r5=>some ((r0.1.1,(r5.1.1,())),()))else bif (eqI a8 24)then ((c263 (y.1,((a3,(a6,(a9,(r2.1.1,a11)))),()))).bind fun r4=>(c251 r4.1).bind fun r5=>(c262 (y.1,(r5.1.1,()))).bind fun r6=>some ((r0.1.1,(r6.1.1,())),()))else bif (eqI a8 25)then (bif (eqI a8 25)then (some ((r0.1.1,((a3,(a6,(a9,(r2.1.1,(a11.1,(a12.1,(a12.2.1,((eqI a8 25),())))))))),())),()))else bif (eqI a8 27)then (bif (eqI a8 27)then (some ((r0.1.1,((a3,(a6,(a9,(r2.1.1,(a11.1,(a12.1,((eqI a8 27),a12.2.2))))))),())),()))else some ((r0.1.1,((a3,(a6,(a9,(r2.1.1,a11)))),())),()))else bif (eqI a8 28)then (some ((r0.1.1,((a3,(a6,(a9,(r2.1.1,(a11.1,(a12.1,((eqI a8 27),a12.2.2))))))),())),()))else some ((r0.1.1,((a3,(a6,(a9,(r2.1.1,a11)))),())),()))else bif (eqI a8 26)then (some ((r0.1.1,((a3,(a6,(a9,(r2.1.1,(a11.1,(a12.1,(a12.2.1,((eqI a8 25),())))))))),())),()))else bif (eqI a8 27)then (bif (eqI a8 27)then (some ((r0.1.1,((a3,(a6,(a9,(r2.1.1,(a11.1,(a12.1,((eqI a8 27),a12.2.2))))))),())),()))else some ((r0.1.1,((a3,(a6,(a9,(r2.1.1,a11)))),())),()))else bif (eqI a8 28)then (some ((r0.1.1,((a3,(a6,(a9,(r2.1.1,(a11.1,(a12.1,((eqI a8 27),a12.2.2))))))),())),()))else some ((r0.1.1,((a3,(a6,(a9,(r2.1.1,a11)))),())),());let X2:R238:=bif (eqI a8 17)then (bif a11.1 then X0 else bif (eqI a8 18)then (bif a12.2.1 then X0 else bif (eqI a8 19)then X0 else some ((r0.1.1,((a3,(a6,(a9,(r2.1.1,a11)))),())),()))else bif (eqI a8 19)then X0 else some ((r0.1.1,((a3,(a6,(a9,(r2.1.1,a11)))),())),()))else bif (eqI a8 18)then (bif a12.2.1 then X0 else bif (eqI a8 19)then X0 else some ((r0.1.1,((a3,(a6,(a9,(r2.1.1,a11)))),())),()))else bif (eqI a8 19)then X0 else some ((r0.1.1,((a3,(a6,(a9,(r2.1.1,a11)))),())),());let X3:R238:=bif (eqI a8 16)then (bif (!a11.1)then X0 else X2)else X2;(c261 ((a3,(a6,(a9,(r2.1.1,a11)))),a2)).bind fun r3=>bif r3.1.2.1 then (some ((r0.1.1,(r3.1.1,())),()))else bif (eqI a8 16)then (bif (eqI a8 16)then X3 else X1)else bif (eqI a8 17)then (bif (eqI a8 17)then X3 else X1)else bif (eqI a8 18)then (bif (eqI a8 18)then X3 else X1)else bif (eqI a8 19)then X3 else X1
theorem s238 (c223:F223) (c257:F257) (c263:F263) (c260:F260) (c264:F264) (c251:F251) (c139:F139) (c261:F261) (c262:F262) (y):TE [g223 c223,g257 c257,g263 c263,g260 c260,g264 c264,g251 c251,g139 c139,g261 c261,g262 c262] Tryz.f238 i238 o238 y=m238 c223 c257 c263 c260 c264 c251 c139 c261 c262 y:=by kernel_rfl
noncomputable def r238:F238:=m238 r223 r257 r263 r260 r264 r251 r139 r261 r262
theorem k238:KO (g238 r238):=fk (s238 r223 r257 r263 r260 r264 r251 r139 r261 r262) ⟨k223,k257,k263,k260,k264,k251,k139,k261,k262,⟨⟩⟩ (by kernel_rfl)
abbrev i195:Ts:=[.a q12]
abbrev o195:Ts:=[.a q12, .v (.int .i64)]
abbrev F195:=FT i195 o195
abbrev g195:=mkG 195 i195 o195
noncomputable def m195 (c231:F231) (c227:F227) (c234:F234) (c238:F238) (c230:F230) (c233:F233) (c235:F235) (c236:F236) (c237:F237) (y:PTup i195):Option (PTup o195×BTup i195):=
  let a0:=y.1;let a1:=a0.2;let a2:=a1.2;let a3:=a2.2;let a4:=a3.2;let a5:=a4.2;let a6:=a5.2;let a7:=a6.2;let a8:=a7.2;let a9:=a8.2;let a10:=a9.2;let a11:=a10.2;let a12:=a11.2;let a13:=a12.2.2;bif a13.2.1 then ((c234 ((a0.1,()),((a2.1,(a3.1,())),((a4.1,(a5.1,(a6.1,(a7.1,(a8.1,(a9.1,(a10.1,(a11.1,())))))))),((65530:Int),()))))).bind fun r0=>some (((a0.1,(a1.1,(r0.1.1.1,(r0.1.1.2.1,(r0.1.2.1.1,(r0.1.2.1.2.1,(r0.1.2.1.2.2.1,(r0.1.2.1.2.2.2.1,(r0.1.2.1.2.2.2.2.1,(r0.1.2.1.2.2.2.2.2.1,(r0.1.2.1.2.2.2.2.2.2.1,(r0.1.2.1.2.2.2.2.2.2.2.1,(a12.1,(a12.2.1,(a13.1,(false,a13.2.2)))))))))))))))),((7:Int),())),()))else bif (!a11.1)then ((c227 (a13.2.2.2.2.1,(a13.1,()))).bind fun r0=>bif r0.1.1 then ((c235 (a0,(a13.2.2.2.2.2.2.2.2.2.2.2.2.2.2.2.2.2.2.2.2.2.2.2.2.1,()))).bind fun r1=>let d0:=r1.1;let d1:=d0.1;let d2:=d1.2;let d3:=d2.2;let d4:=d3.2;let d5:=d4.2;let d6:=d5.2;let d7:=d6.2;let d8:=d7.2;let d9:=d8.2;let d10:=d9.2.2;bif d10.2.2.2.2.2.2.2.1 then ((c234 ((d1.1,()),((d3.1,(d4.1,())),((d5.1,(d6.1,(d7.1,(d8.1,(d9.1,(d9.2.1,(d10.1,(d10.2.1,())))))))),((65534:Int),()))))).bind fun r2=>some (((d1.1,(d2.1,(r2.1.1.1,(r2.1.1.2.1,(r2.1.2.1.1,(r2.1.2.1.2.1,(r2.1.2.1.2.2.1,(r2.1.2.1.2.2.2.1,(r2.1.2.1.2.2.2.2.1,(r2.1.2.1.2.2.2.2.2.1,(r2.1.2.1.2.2.2.2.2.2.1,(r2.1.2.1.2.2.2.2.2.2.2.1,d10.2.2)))))))))))),((7:Int),())),()))else (c230 ((d1.1,()),((d3.1,(d4.1,())),(d8.1,())))).bind fun r2=>(c231 (r2.1.1,((d5.1,(d6.1,(d7.1,(d8.1,(d9.1,(d9.2.1,(d10.1,(d10.2.1,())))))))),()))).bind fun r3=>bif (eqI r3.1.1 1)then ((c236 (d1,(r3.1.2.1,()))).bind fun r4=>(c238 ((r4.1.1.2.2.1,(r4.1.1.2.2.2.1,())),((r4.1.1.2.2.2.2.1,(r4.1.1.2.2.2.2.2.1,(r4.1.1.2.2.2.2.2.2.1,(r4.1.1.2.2.2.2.2.2.2.1,(r4.1.1.2.2.2.2.2.2.2.2.1,(r4.1.1.2.2.2.2.2.2.2.2.2.1,(r4.1.1.2.2.2.2.2.2.2.2.2.2.1,(r4.1.1.2.2.2.2.2.2.2.2.2.2.2.1,())))))))),(r2.1.1,r4.1.2)))).bind fun r5=>(c233 (r2.1.1.1,())).bind fun r6=>some (((r4.1.1.1,(r4.1.1.2.1,(r5.1.1.1,(r5.1.1.2.1,(r5.1.2.1.1,(r5.1.2.1.2.1,(r5.1.2.1.2.2.1,(r5.1.2.1.2.2.2.1,(r5.1.2.1.2.2.2.2.1,(r5.1.2.1.2.2.2.2.2.1,(r5.1.2.1.2.2.2.2.2.2.1,(r5.1.2.1.2.2.2.2.2.2.2.1,r4.1.1.2.2.2.2.2.2.2.2.2.2.2.2)))))))))))),r6.1),()))else bif (eqI r3.1.1 2)then ((c237 (d1,r3.1.2)).bind fun r4=>(c238 ((r4.1.1.2.2.1,(r4.1.1.2.2.2.1,())),((r4.1.1.2.2.2.2.1,(r4.1.1.2.2.2.2.2.1,(r4.1.1.2.2.2.2.2.2.1,(r4.1.1.2.2.2.2.2.2.2.1,(r4.1.1.2.2.2.2.2.2.2.2.1,(r4.1.1.2.2.2.2.2.2.2.2.2.1,(r4.1.1.2.2.2.2.2.2.2.2.2.2.1,(r4.1.1.2.2.2.2.2.2.2.2.2.2.2.1,())))))))),(r2.1.1,((0:Int),()))))).bind fun r5=>(c233 (r2.1.1.1,())).bind fun r6=>some (((r4.1.1.1,(r4.1.1.2.1,(r5.1.1.1,(r5.1.1.2.1,(r5.1.2.1.1,(r5.1.2.1.2.1,(r5.1.2.1.2.2.1,(r5.1.2.1.2.2.2.1,(r5.1.2.1.2.2.2.2.1,(r5.1.2.1.2.2.2.2.2.1,(r5.1.2.1.2.2.2.2.2.2.1,(r5.1.2.1.2.2.2.2.2.2.2.1,r4.1.1.2.2.2.2.2.2.2.2.2.2.2.2)))))))))))),r6.1),()))else (c238 ((d3.1,(d4.1,())),((d5.1,(d6.1,(d7.1,(d8.1,(d9.1,(d9.2.1,(d10.1,(d10.2.1,())))))))),(r2.1.1,((0:Int),()))))).bind fun r4=>(c233 (r2.1.1.1,())).bind fun r5=>some (((d1.1,(d2.1,(r4.1.1.1,(r4.1.1.2.1,(r4.1.2.1.1,(r4.1.2.1.2.1,(r4.1.2.1.2.2.1,(r4.1.2.1.2.2.2.1,(r4.1.2.1.2.2.2.2.1,(r4.1.2.1.2.2.2.2.2.1,(r4.1.2.1.2.2.2.2.2.2.1,(r4.1.2.1.2.2.2.2.2.2.2.1,d10.2.2)))))))))))),r5.1),()))else bif a13.2.2.2.1 then ((c234 ((a0.1,()),((a2.1,(a3.1,())),((a4.1,(a5.1,(a6.1,(a7.1,(a8.1,(a9.1,(a10.1,(a11.1,())))))))),((65534:Int),()))))).bind fun r1=>some (((a0.1,(a1.1,(r1.1.1.1,(r1.1.1.2.1,(r1.1.2.1.1,(r1.1.2.1.2.1,(r1.1.2.1.2.2.1,(r1.1.2.1.2.2.2.1,(r1.1.2.1.2.2.2.2.1,(r1.1.2.1.2.2.2.2.2.1,(r1.1.2.1.2.2.2.2.2.2.1,(r1.1.2.1.2.2.2.2.2.2.2.1,a12)))))))))))),((7:Int),())),()))else (c230 ((a0.1,()),((a2.1,(a3.1,())),(a7.1,())))).bind fun r1=>(c231 (r1.1.1,((a4.1,(a5.1,(a6.1,(a7.1,(a8.1,(a9.1,(a10.1,(a11.1,())))))))),()))).bind fun r2=>bif (eqI r2.1.1 1)then ((c236 (a0,(r2.1.2.1,()))).bind fun r3=>(c238 ((r3.1.1.2.2.1,(r3.1.1.2.2.2.1,())),((r3.1.1.2.2.2.2.1,(r3.1.1.2.2.2.2.2.1,(r3.1.1.2.2.2.2.2.2.1,(r3.1.1.2.2.2.2.2.2.2.1,(r3.1.1.2.2.2.2.2.2.2.2.1,(r3.1.1.2.2.2.2.2.2.2.2.2.1,(r3.1.1.2.2.2.2.2.2.2.2.2.2.1,(r3.1.1.2.2.2.2.2.2.2.2.2.2.2.1,())))))))),(r1.1.1,r3.1.2)))).bind fun r4=>(c233 (r1.1.1.1,())).bind fun r5=>some (((r3.1.1.1,(r3.1.1.2.1,(r4.1.1.1,(r4.1.1.2.1,(r4.1.2.1.1,(r4.1.2.1.2.1,(r4.1.2.1.2.2.1,(r4.1.2.1.2.2.2.1,(r4.1.2.1.2.2.2.2.1,(r4.1.2.1.2.2.2.2.2.1,(r4.1.2.1.2.2.2.2.2.2.1,(r4.1.2.1.2.2.2.2.2.2.2.1,r3.1.1.2.2.2.2.2.2.2.2.2.2.2.2)))))))))))),r5.1),()))else bif (eqI r2.1.1 2)then ((c237 (a0,r2.1.2)).bind fun r3=>(c238 ((r3.1.1.2.2.1,(r3.1.1.2.2.2.1,())),((r3.1.1.2.2.2.2.1,(r3.1.1.2.2.2.2.2.1,(r3.1.1.2.2.2.2.2.2.1,(r3.1.1.2.2.2.2.2.2.2.1,(r3.1.1.2.2.2.2.2.2.2.2.1,(r3.1.1.2.2.2.2.2.2.2.2.2.1,(r3.1.1.2.2.2.2.2.2.2.2.2.2.1,(r3.1.1.2.2.2.2.2.2.2.2.2.2.2.1,())))))))),(r1.1.1,((0:Int),()))))).bind fun r4=>(c233 (r1.1.1.1,())).bind fun r5=>some (((r3.1.1.1,(r3.1.1.2.1,(r4.1.1.1,(r4.1.1.2.1,(r4.1.2.1.1,(r4.1.2.1.2.1,(r4.1.2.1.2.2.1,(r4.1.2.1.2.2.2.1,(r4.1.2.1.2.2.2.2.1,(r4.1.2.1.2.2.2.2.2.1,(r4.1.2.1.2.2.2.2.2.2.1,(r4.1.2.1.2.2.2.2.2.2.2.1,r3.1.1.2.2.2.2.2.2.2.2.2.2.2.2)))))))))))),r5.1),()))else (c238 ((a2.1,(a3.1,())),((a4.1,(a5.1,(a6.1,(a7.1,(a8.1,(a9.1,(a10.1,(a11.1,())))))))),(r1.1.1,((0:Int),()))))).bind fun r3=>(c233 (r1.1.1.1,())).bind fun r4=>some (((a0.1,(a1.1,(r3.1.1.1,(r3.1.1.2.1,(r3.1.2.1.1,(r3.1.2.1.2.1,(r3.1.2.1.2.2.1,(r3.1.2.1.2.2.2.1,(r3.1.2.1.2.2.2.2.1,(r3.1.2.1.2.2.2.2.2.1,(r3.1.2.1.2.2.2.2.2.2.1,(r3.1.2.1.2.2.2.2.2.2.2.1,a12)))))))))))),r4.1),()))else (c230 ((a0.1,()),((a2.1,(a3.1,())),(a7.1,())))).bind fun r0=>(c231 (r0.1.1,((a4.1,(a5.1,(a6.1,(a7.1,(a8.1,(a9.1,(a10.1,(a11.1,())))))))),()))).bind fun r1=>bif (eqI r1.1.1 1)then ((c236 (a0,(r1.1.2.1,()))).bind fun r2=>(c238 ((r2.1.1.2.2.1,(r2.1.1.2.2.2.1,())),((r2.1.1.2.2.2.2.1,(r2.1.1.2.2.2.2.2.1,(r2.1.1.2.2.2.2.2.2.1,(r2.1.1.2.2.2.2.2.2.2.1,(r2.1.1.2.2.2.2.2.2.2.2.1,(r2.1.1.2.2.2.2.2.2.2.2.2.1,(r2.1.1.2.2.2.2.2.2.2.2.2.2.1,(r2.1.1.2.2.2.2.2.2.2.2.2.2.2.1,())))))))),(r0.1.1,r2.1.2)))).bind fun r3=>(c233 (r0.1.1.1,())).bind fun r4=>some (((r2.1.1.1,(r2.1.1.2.1,(r3.1.1.1,(r3.1.1.2.1,(r3.1.2.1.1,(r3.1.2.1.2.1,(r3.1.2.1.2.2.1,(r3.1.2.1.2.2.2.1,(r3.1.2.1.2.2.2.2.1,(r3.1.2.1.2.2.2.2.2.1,(r3.1.2.1.2.2.2.2.2.2.1,(r3.1.2.1.2.2.2.2.2.2.2.1,r2.1.1.2.2.2.2.2.2.2.2.2.2.2.2)))))))))))),r4.1),()))else bif (eqI r1.1.1 2)then ((c237 (a0,r1.1.2)).bind fun r2=>(c238 ((r2.1.1.2.2.1,(r2.1.1.2.2.2.1,())),((r2.1.1.2.2.2.2.1,(r2.1.1.2.2.2.2.2.1,(r2.1.1.2.2.2.2.2.2.1,(r2.1.1.2.2.2.2.2.2.2.1,(r2.1.1.2.2.2.2.2.2.2.2.1,(r2.1.1.2.2.2.2.2.2.2.2.2.1,(r2.1.1.2.2.2.2.2.2.2.2.2.2.1,(r2.1.1.2.2.2.2.2.2.2.2.2.2.2.1,())))))))),(r0.1.1,((0:Int),()))))).bind fun r3=>(c233 (r0.1.1.1,())).bind fun r4=>some (((r2.1.1.1,(r2.1.1.2.1,(r3.1.1.1,(r3.1.1.2.1,(r3.1.2.1.1,(r3.1.2.1.2.1,(r3.1.2.1.2.2.1,(r3.1.2.1.2.2.2.1,(r3.1.2.1.2.2.2.2.1,(r3.1.2.1.2.2.2.2.2.1,(r3.1.2.1.2.2.2.2.2.2.1,(r3.1.2.1.2.2.2.2.2.2.2.1,r2.1.1.2.2.2.2.2.2.2.2.2.2.2.2)))))))))))),r4.1),()))else (c238 ((a2.1,(a3.1,())),((a4.1,(a5.1,(a6.1,(a7.1,(a8.1,(a9.1,(a10.1,(a11.1,())))))))),(r0.1.1,((0:Int),()))))).bind fun r2=>(c233 (r0.1.1.1,())).bind fun r3=>some (((a0.1,(a1.1,(r2.1.1.1,(r2.1.1.2.1,(r2.1.2.1.1,(r2.1.2.1.2.1,(r2.1.2.1.2.2.1,(r2.1.2.1.2.2.2.1,(r2.1.2.1.2.2.2.2.1,(r2.1.2.1.2.2.2.2.2.1,(r2.1.2.1.2.2.2.2.2.2.1,(r2.1.2.1.2.2.2.2.2.2.2.1,a12)))))))))))),r3.1),())
theorem s195 (c231:F231) (c227:F227) (c234:F234) (c238:F238) (c230:F230) (c233:F233) (c235:F235) (c236:F236) (c237:F237) (y):TE [g231 c231,g227 c227,g234 c234,g238 c238,g230 c230,g233 c233,g235 c235,g236 c236,g237 c237] Tryz.f195 i195 o195 y=m195 c231 c227 c234 c238 c230 c233 c235 c236 c237 y:=by kernel_rfl
noncomputable def r195:F195:=m195 r231 r227 r234 r238 r230 r233 r235 r236 r237
theorem k195:KO (g195 r195):=fk (s195 r231 r227 r234 r238 r230 r233 r235 r236 r237) ⟨k231,k227,k234,k238,k230,k233,k235,k236,k237,⟨⟩⟩ (by kernel_rfl)
abbrev i196:Ts:=[.v (.int .i64), .v (.int .i64)]
abbrev o196:Ts:=[.v (.bool)]
abbrev F196:=FT i196 o196
abbrev g196:=mkG 196 i196 o196
noncomputable def m196 (c239:F239) (y:PTup i196):Option (PTup o196×BTup i196):=
  (c239 (y.1,(y.2.1,((48:Int),((64:Int),()))))).bind fun r0=>
  some (r0.1,())
theorem s196 (c239:F239) (y):TE [g239 c239] Tryz.f196 i196 o196 y=m196 c239 y:=by kernel_rfl
noncomputable def r196:F196:=m196 r239
theorem k196:KO (g196 r196):=fk (s196 r239) ⟨k239,⟨⟩⟩ (by kernel_rfl)
abbrev i125:Ts:=[.a q11]
abbrev o125:Ts:=[.a q12, .v (.bool)]
abbrev F125:=FT i125 o125
abbrev g125:=mkG 125 i125 o125
noncomputable def m125 (c196:F196) (c61:F61) (c62:F62) (c195:F195) (c194:F194) (y:PTup i125):Option (PTup o125×BTup i125):=
  (c61 (y.1,())).bind fun r0=>
  bif (!r0.1.1)then (some ((([],([],([],((0:Int),((0:Int),((0:Int),((0:Int),((0:Int),(false,(false,(false,(false,(false,((0:Int),((0:Int),(false,((0:Int),(false,((0:Int),((0:Int),([],((0:Int),((0:Int),((0:Int),((0:Int),((0:Int),(false,([],([],((0:Int),([],([],((0:Int),((0:Int),((0:Int),((0:Int),((0:Int),(false,(false,((0:Int),([],([],())))))))))))))))))))))))))))))))))))))))))),(false,())),()))
  else (c194 (y.1,())).bind fun r1=>
  bif (neI r1.1.1 0)then ((c62 (y.1,())).bind fun r2=>
   some ((r2.1.1,(false,())),()))
  else (c62 (y.1,())).bind fun r2=>
  (c195 (r2.1.1,())).bind fun r3=>let g0:=r3.1;let g1:=g0.1;let g2:=g1.2;let g3:=g2.2;let g4:=g3.2;let g5:=g4.2;let g6:=g5.2;let g7:=g6.2;let g8:=g7.2;let g9:=g8.2;let g10:=g9.2;let g11:=g10.2;let g12:=g11.2;let g13:=g12.2;let g14:=g13.2;let g15:=g14.2.2;let g16:=g15.2.2;bif (ltI 127 g15.2.1)then ((c196 (y.1.2.2.2.2.2.2.2.2.2.2.2.2.2.2.1,((wI (y.1.2.2.2.2.2.2.2.2.2.2.2.2.2.2.1+g0.2.1)),()))).bind fun r4=>
   some (((g1.1,(g2.1,(g3.1,(g4.1,(g5.1,(g6.1,(g7.1,(g8.1,(g9.1,(g10.1,(g11.1,(g12.1,(g13.1,(g14.1,((wI (y.1.2.2.2.2.2.2.2.2.2.2.2.2.2.2.1+g0.2.1)),(r4.1.1,(g15.2.1,(g16.1,(g16.2.1,((wI (y.1.2.2.2.2.2.2.2.2.2.2.2.2.2.2.2.2.2.2.2.1+1)),g16.2.2.2)))))))))))))))))))),(true,())),()))
  else some (((g1.1,(g2.1,(g3.1,(g4.1,(g5.1,(g6.1,(g7.1,(g8.1,(g9.1,(g10.1,(g11.1,(g12.1,(g13.1,(g14.1,((wI (y.1.2.2.2.2.2.2.2.2.2.2.2.2.2.2.1+g0.2.1)),(false,(g15.2.1,(g16.1,(g16.2.1,((wI (y.1.2.2.2.2.2.2.2.2.2.2.2.2.2.2.2.2.2.2.2.1+1)),g16.2.2.2)))))))))))))))))))),(true,())),())
theorem s125 (c196:F196) (c61:F61) (c62:F62) (c195:F195) (c194:F194) (y):TE [g196 c196,g61 c61,g62 c62,g195 c195,g194 c194] Tryz.f125 i125 o125 y=m125 c196 c61 c62 c195 c194 y:=by kernel_rfl
noncomputable def r125:F125:=m125 r196 r61 r62 r195 r194
theorem k125:KO (g125 r125):=fk (s125 r196 r61 r62 r195 r194) ⟨k196,k61,k62,k195,k194,⟨⟩⟩ (by kernel_rfl)
abbrev i188:Ts:=[.a q6, .v (.int .i64), .v (.int .i64)]
abbrev o188:Ts:=[.a q5]
abbrev F188:=FT i188 o188
abbrev g188:=mkG 188 i188 o188
noncomputable def m188 (c215:F215) (c113:F113) (c156:F156) (y:PTup i188):Option (PTup o188×BTup i188):=
  (c156 (y.1,())).bind fun r0=>
  (c113 (y.1,())).bind fun r1=>
  bif (!r1.1.1)then (some ((r0.1.1,()),()))
  else (c215 y.2.2).bind fun r2=>
  bif (eqI y.2.1 0)then (some (((r0.1.1.1,(r2.1.1,r0.1.1.2.2)),()),()))
  else bif (eqI y.2.1 1)then (some (((r0.1.1.1,(r0.1.1.2.1,(r2.1.1,r0.1.1.2.2.2))),()),()))
  else bif (eqI y.2.1 3)then (some (((r0.1.1.1,(r0.1.1.2.1,(r0.1.1.2.2.1,((Int.tmod r2.1.1 16),r0.1.1.2.2.2.2)))),()),()))
  else bif (eqI y.2.1 4)then (bif (leI 0 y.1.2.2.2.1)then (bif (ltI y.1.2.2.2.1 (lenI r0.1.1.2.2.2.2.2.2.1))then (some (((r0.1.1.1,(r0.1.1.2.1,(r0.1.1.2.2.1,((Int.tmod (wI (y.1.2.2.2.1+1)) (16:Int)),(r0.1.1.2.2.2.2.1,(r0.1.1.2.2.2.2.2.1,((List.set r0.1.1.2.2.2.2.2.2.1 (Int.toNat y.1.2.2.2.1) (Int.tmod r2.1.1 64)),r0.1.1.2.2.2.2.2.2.2))))))),()),()))
    else none)
   else none)
  else bif (eqI y.2.1 5)then (some (((r0.1.1.1,(r0.1.1.2.1,(r0.1.1.2.2.1,(r0.1.1.2.2.2.1,((Int.tmod r2.1.1 64),r0.1.1.2.2.2.2.2))))),()),()))
  else some ((r0.1.1,()),())
theorem s188 (c215:F215) (c113:F113) (c156:F156) (y):TE [g215 c215,g113 c113,g156 c156] Tryz.f188 i188 o188 y=m188 c215 c113 c156 y:=by kernel_rfl
noncomputable def r188:F188:=m188 r215 r113 r156
theorem k188:KO (g188 r188):=fk (s188 r215 r113 r156) ⟨k215,k113,k156,⟨⟩⟩ (by kernel_rfl)
abbrev i240:Ts:=[.a q6, .v (.int .i64)]
abbrev o240:Ts:=[.v (.int .i64)]
abbrev F240:=FT i240 o240
abbrev g240:=mkG 240 i240 o240
noncomputable def m240 (y:PTup i240):Option (PTup o240×BTup i240):=
  bif (leI 0 (Int.tmod (wI ((wI ((Int.tmod y.2.1 8)+y.1.2.2.1))+(wI (Int.tdiv y.2.1 8)))) (16:Int)))then (bif (ltI (Int.tmod (wI ((wI ((Int.tmod y.2.1 8)+y.1.2.2.1))+(wI (Int.tdiv y.2.1 8)))) (16:Int)) (lenI y.1.2.2.2.2.2.2.1))then (some (((bXor Go.IntKind.i64 (rdE .i y.1.2.2.2.2.2.2.1 (Int.tmod (wI ((wI ((Int.tmod y.2.1 8)+y.1.2.2.1))+(wI (Int.tdiv y.2.1 8)))) (16:Int))) y.1.2.2.2.2.1),()),()))
   else none)
  else none
theorem s240 (y):TE [] Tryz.f240 i240 o240 y=m240 y:=by kernel_rfl
noncomputable def r240:F240:=m240
theorem k240:KO (g240 r240):=fk (s240) trivial (by kernel_rfl)
abbrev i197:Ts:=[.a q6]
abbrev o197:Ts:=[.a q5, .v (.sl true .i), .v (.bool)]
abbrev F197:=FT i197 o197
abbrev g197:=mkG 197 i197 o197
noncomputable def m197 (c156:F156) (c240:F240) (y:PTup i197):Option (PTup o197×BTup i197):=
  (c156 (y.1,())).bind fun r0=>
  bif (eqI y.1.1 20000)then (some ((r0.1.1,([],(false,()))),()))
  else bif (ltI (Int.tmod y.1.1 64) (48:Int))then ((c240 (y.1,((Int.tmod y.1.1 64),()))).bind fun r1=>
   bif (leN ((List.length r0.1.1.2.2.2.2.2.2.2.1)+(List.length (r1.1.1::[]))) (E.most .i))then (some ((((wI (y.1.1+1)),(r0.1.1.2.1,(r0.1.1.2.2.1,(r0.1.1.2.2.2.1,(r0.1.1.2.2.2.2.1,(r0.1.1.2.2.2.2.2.1,(r0.1.1.2.2.2.2.2.2.1,((r0.1.1.2.2.2.2.2.2.2.1++(r1.1.1::[])),())))))))),([],(false,()))),()))
   else none)
  else bif (eqI (Int.tmod y.1.1 64) (48:Int))then (bif (leN (0+(List.length y.1.2.2.2.2.2.2.2.1)) (E.most .i))then (some ((((wI (y.1.1+1)),(r0.1.1.2.1,(r0.1.1.2.2.1,(r0.1.1.2.2.2.1,(r0.1.1.2.2.2.2.1,(true,(r0.1.1.2.2.2.2.2.2.1,([],())))))))),(([]++y.1.2.2.2.2.2.2.2.1),((ltI 127 y.1.2.1),()))),()))
   else none)
  else bif (eqI (Int.tmod y.1.1 64) (63:Int))then (some ((((wI (y.1.1+1)),(r0.1.1.2.1,(r0.1.1.2.2.1,(r0.1.1.2.2.2.1,(r0.1.1.2.2.2.2.1,(false,r0.1.1.2.2.2.2.2.2)))))),([],(false,()))),()))
  else some ((((wI (y.1.1+1)),r0.1.1.2),([],(false,()))),())
theorem s197 (c156:F156) (c240:F240) (y):TE [g156 c156,g240 c240] Tryz.f197 i197 o197 y=m197 c156 c240 y:=by kernel_rfl
noncomputable def r197:F197:=m197 r156 r240
theorem k197:KO (g197 r197):=fk (s197 r156 r240) ⟨k156,k240,⟨⟩⟩ (by kernel_rfl)
abbrev i126:Ts:=[.a q13, .v (.int .i64)]
abbrev o126:Ts:=[.a q13, .v (.bool)]
abbrev R126:=Option (PTup o126×BTup i126)
abbrev F126:=PTup i126→R126
abbrev g126:=mkG 126 i126 o126
noncomputable def m126 (c188:F188) (c197:F197) (y:PTup i126):R126:=
  let a0:=y.1;let a1:=a0.2;let a2:=a1.2;let a3:=a2.2;let a4:=a3.2;let a5:=a4.2;let a6:=a5.2;let a7:=a6.2;let a8:=a7.2;let a9:=a8.2;let X0:R126:=bif (leI y.2.1 a0.1)then (some ((a0,(false,())),()))else bif (eqI a0.1 20000)then (some ((a0,(false,())),()))else (c197 ((a0.1,(a1.1,(a2.1,(a3.1,(a4.1,(a5.1,(a6.1,(a7.1,())))))))),())).bind fun r0=>bif (eqI (Int.tmod a0.1 64) (48:Int))then (bif (leN ((List.length a9.2.1)+(List.length (r0.1.2.1::[]))) (E.most .n))then (some (((r0.1.1.1,(r0.1.1.2.1,(r0.1.1.2.2.1,(r0.1.1.2.2.2.1,(r0.1.1.2.2.2.2.1,(r0.1.1.2.2.2.2.2.1,(r0.1.1.2.2.2.2.2.2.1,(r0.1.1.2.2.2.2.2.2.2.1,(a8.1,(a9.1,((a9.2.1++(r0.1.2.1::[])),()))))))))))),(true,())),()))else none)else some (((r0.1.1.1,(r0.1.1.2.1,(r0.1.1.2.2.1,(r0.1.1.2.2.2.1,(r0.1.1.2.2.2.2.1,(r0.1.1.2.2.2.2.2.1,(r0.1.1.2.2.2.2.2.2.1,(r0.1.1.2.2.2.2.2.2.2.1,a8)))))))),(true,())),());bif (ltI 0 (lenI a9.1))then (bif (ltI 0 (lenI a9.1))then (bif (eqI (rdE .t a9.1 (0:Int)).1 a0.1)then (bif (ltI 0 (lenI a9.1))then (bif (leI 1 (lenI a9.1))then (bif (leN (0+(List.length (List.drop (Int.toNat (1:Int)) a9.1))) (E.most .t))then ((c188 ((a0.1,(a1.1,(a2.1,(a3.1,(a4.1,(a5.1,(a6.1,(a7.1,())))))))),((rdE .t a9.1 (0:Int)).2.1,((rdE .t a9.1 (0:Int)).2.2,())))).bind fun r0=>some (((r0.1.1.1,(r0.1.1.2.1,(r0.1.1.2.2.1,(r0.1.1.2.2.2.1,(r0.1.1.2.2.2.2.1,(r0.1.1.2.2.2.2.2.1,(r0.1.1.2.2.2.2.2.2.1,(r0.1.1.2.2.2.2.2.2.2.1,(a8.1,(([]++(List.drop (Int.toNat (1:Int)) a9.1)),a9.2)))))))))),(true,())),()))else none)else none)else none)else X0)else none)else X0
theorem s126 (c188:F188) (c197:F197) (y):TE [g188 c188,g197 c197] Tryz.f126 i126 o126 y=m126 c188 c197 y:=by kernel_rfl
noncomputable def r126:F126:=m126 r188 r197
theorem k126:KO (g126 r126):=fk (s126 r188 r197) ⟨k188,k197,⟨⟩⟩ (by kernel_rfl)
abbrev i189:Ts:=[.a q9, .v (.int .i64), .v (.int .i64)]
abbrev o189:Ts:=[.a q9]
abbrev F189:=FT i189 o189
abbrev g189:=mkG 189 i189 o189
noncomputable def m189 (c114:F114) (c215:F215) (y:PTup i189):Option (PTup o189×BTup i189):=
  (c114 (y.1,())).bind fun r0=>
  bif (!r0.1.1)then (some ((y.1,()),()))
  else (c215 y.2.2).bind fun r1=>
  bif (eqI y.2.1 0)then (some (((y.1.1,(r1.1.1,y.1.2.2)),()),()))
  else bif (eqI y.2.1 1)then (some (((y.1.1,(y.1.2.1,(y.1.2.2.1,(y.1.2.2.2.1,((Int.tmod r1.1.1 32),y.1.2.2.2.2.2))))),()),()))
  else bif (eqI y.2.1 2)then (bif y.1.2.2.2.2.2.2.1 then (some (((y.1.1,(y.1.2.1,(y.1.2.2.1,(y.1.2.2.2.1,(y.1.2.2.2.2.1,((eqI (Int.tmod r1.1.1 2) (1:Int)),((eqI (Int.tmod r1.1.1 2) (1:Int)),()))))))),()),()))
   else some (((y.1.1,(y.1.2.1,(y.1.2.2.1,(y.1.2.2.2.1,(y.1.2.2.2.2.1,((eqI (Int.tmod r1.1.1 2) (1:Int)),(false,()))))))),()),()))
  else bif (eqI y.2.1 3)then (some (((y.1.1,(y.1.2.1,(y.1.2.2.1,(y.1.2.2.2.1,(y.1.2.2.2.2.1,(y.1.2.2.2.2.2.1,(false,()))))))),()),()))
  else some ((y.1,()),())
theorem s189 (c114:F114) (c215:F215) (y):TE [g114 c114,g215 c215] Tryz.f189 i189 o189 y=m189 c114 c215 y:=by kernel_rfl
noncomputable def r189:F189:=m189 r114 r215
theorem k189:KO (g189 r189):=fk (s189 r114 r215) ⟨k114,k215,⟨⟩⟩ (by kernel_rfl)
abbrev i198:Ts:=[.a q9]
abbrev o198:Ts:=[.a q9, .v (.int .i64), .v (.bool)]
abbrev R198:=Option (PTup o198×BTup i198)
abbrev F198:=PTup i198→R198
abbrev g198:=mkG 198 i198 o198
noncomputable def m198 (y:PTup i198):R198:=
  let a0:=y.1;let a1:=a0.1;let a2:=a0.2;let a3:=a2.1;let a4:=a2.2;let a5:=a4.1;let a6:=a4.2;let a7:=a6.1;let a8:=a6.2;let a9:=a8.1;let a10:=a8.2;let a11:=a10.1;let X0:R198:=bif (eqI (Int.tmod a1 16) (15:Int))then (bif (ltI 0 a9)then (some ((((wI (a1+1)),(a3,(a3,((wI ((1:Int)-a7)),a8)))),((wI ((8:Int)*(wI ((1:Int)-a7)))),((eqI (Int.tmod a1 16) (15:Int)),()))),()))else some ((((wI (a1+1)),(a3,(a3,((wI ((1:Int)-a7)),a8)))),((0:Int),((eqI (Int.tmod a1 16) (15:Int)),()))),()))else some ((((wI (a1+1)),(a3,(a3,((wI ((1:Int)-a7)),a8)))),((0:Int),((eqI (Int.tmod a1 16) (15:Int)),()))),());let X1:R198:=bif (eqI (Int.tmod a1 16) (15:Int))then (bif (ltI 0 a9)then (some ((((wI (a1+1)),(a3,((wI (a5-1)),a6))),((wI ((8:Int)*a7)),((eqI (Int.tmod a1 16) (15:Int)),()))),()))else some ((((wI (a1+1)),(a3,((wI (a5-1)),a6))),((0:Int),((eqI (Int.tmod a1 16) (15:Int)),()))),()))else some ((((wI (a1+1)),(a3,((wI (a5-1)),a6))),((0:Int),((eqI (Int.tmod a1 16) (15:Int)),()))),());let X2:R198:=bif (eqI (Int.tmod a1 16) (15:Int))then (bif (ltI 0 a9)then (some ((((wI (a1+1)),(a3,(a3,a6))),((wI ((8:Int)*a7)),((eqI (Int.tmod a1 16) (15:Int)),()))),()))else some ((((wI (a1+1)),(a3,(a3,a6))),((0:Int),((eqI (Int.tmod a1 16) (15:Int)),()))),()))else some ((((wI (a1+1)),(a3,(a3,a6))),((0:Int),((eqI (Int.tmod a1 16) (15:Int)),()))),());let X3:R198:=some ((((wI (a1+1)),(a3,((wI (a5-1)),(a7,((wI (a9-1)),(a11,(a11,()))))))),((0:Int),((eqI (Int.tmod a1 16) (15:Int)),()))),());let X4:R198:=some ((((wI (a1+1)),(a3,(a3,((wI ((1:Int)-a7)),((wI (a9-1)),(a11,(a11,()))))))),((0:Int),((eqI (Int.tmod a1 16) (15:Int)),()))),());let X5:R198:=some ((((wI (a1+1)),(a3,((wI (a5-1)),(a7,((wI (a9-1)),(a11,(false,()))))))),((0:Int),((eqI (Int.tmod a1 16) (15:Int)),()))),());let X6:R198:=some ((((wI (a1+1)),(a3,((wI (a5-1)),(a7,((wI (a9-1)),(a11,(true,()))))))),((0:Int),((eqI (Int.tmod a1 16) (15:Int)),()))),());let X7:R198:=some ((((wI (a1+1)),(a3,(a3,((wI ((1:Int)-a7)),((wI (a9-1)),(a11,(false,()))))))),((0:Int),((eqI (Int.tmod a1 16) (15:Int)),()))),());let X8:R198:=some ((((wI (a1+1)),(a3,(a3,((wI ((1:Int)-a7)),((wI (a9-1)),(a11,(true,()))))))),((0:Int),((eqI (Int.tmod a1 16) (15:Int)),()))),());let X9:R198:=some ((((wI (a1+1)),(a3,(a3,(a7,((wI (a9-1)),(a11,(a11,()))))))),((0:Int),((eqI (Int.tmod a1 16) (15:Int)),()))),());let X10:R198:=some ((((wI (a1+1)),(a3,(a3,(a7,((wI (a9-1)),(a11,(false,()))))))),((0:Int),((eqI (Int.tmod a1 16) (15:Int)),()))),());let X11:R198:=some ((((wI (a1+1)),(a3,(a3,(a7,((wI (a9-1)),(a11,(true,()))))))),((0:Int),((eqI (Int.tmod a1 16) (15:Int)),()))),());bif (eqI a1 20000)then (some ((a0,((0:Int),(false,()))),()))else bif (eqI a5 0)then (bif (ltI 0 a9)then (bif (eqI (Int.tmod a1 32) (0:Int))then (bif (ltI 0 a9)then (bif a10.2.1 then (bif (eqI (Int.tmod a1 16) (15:Int))then (bif (ltI 0 (wI (a9-1)))then (some ((((wI (a1+1)),(a3,(a3,((wI ((1:Int)-a7)),((wI (a9-1)),(a11,(true,()))))))),((wI ((8:Int)*(wI ((1:Int)-a7)))),((eqI (Int.tmod a1 16) (15:Int)),()))),()))else X8)else X8)else bif (eqI (wI (a9-1)) (0:Int))then (bif (eqI (Int.tmod a1 16) (15:Int))then (bif (ltI 0 (wI (a9-1)))then (some ((((wI (a1+1)),(a3,(a3,((wI ((1:Int)-a7)),((wI (a9-1)),(a11,(a11,()))))))),((wI ((8:Int)*(wI ((1:Int)-a7)))),((eqI (Int.tmod a1 16) (15:Int)),()))),()))else X4)else X4)else bif (eqI (Int.tmod a1 16) (15:Int))then (bif (ltI 0 (wI (a9-1)))then (some ((((wI (a1+1)),(a3,(a3,((wI ((1:Int)-a7)),((wI (a9-1)),(a11,(false,()))))))),((wI ((8:Int)*(wI ((1:Int)-a7)))),((eqI (Int.tmod a1 16) (15:Int)),()))),()))else X7)else X7)else X0)else X0)else bif (eqI (Int.tmod a1 32) (0:Int))then (bif (ltI 0 a9)then (bif a10.2.1 then (bif (eqI (Int.tmod a1 16) (15:Int))then (bif (ltI 0 (wI (a9-1)))then (some ((((wI (a1+1)),(a3,(a3,(a7,((wI (a9-1)),(a11,(true,()))))))),((wI ((8:Int)*a7)),((eqI (Int.tmod a1 16) (15:Int)),()))),()))else X11)else X11)else bif (eqI (wI (a9-1)) (0:Int))then (bif (eqI (Int.tmod a1 16) (15:Int))then (bif (ltI 0 (wI (a9-1)))then (some ((((wI (a1+1)),(a3,(a3,(a7,((wI (a9-1)),(a11,(a11,()))))))),((wI ((8:Int)*a7)),((eqI (Int.tmod a1 16) (15:Int)),()))),()))else X9)else X9)else bif (eqI (Int.tmod a1 16) (15:Int))then (bif (ltI 0 (wI (a9-1)))then (some ((((wI (a1+1)),(a3,(a3,(a7,((wI (a9-1)),(a11,(false,()))))))),((wI ((8:Int)*a7)),((eqI (Int.tmod a1 16) (15:Int)),()))),()))else X10)else X10)else X2)else X2)else bif (eqI (Int.tmod a1 32) (0:Int))then (bif (ltI 0 a9)then (bif a10.2.1 then (bif (eqI (Int.tmod a1 16) (15:Int))then (bif (ltI 0 (wI (a9-1)))then (some ((((wI (a1+1)),(a3,((wI (a5-1)),(a7,((wI (a9-1)),(a11,(true,()))))))),((wI ((8:Int)*a7)),((eqI (Int.tmod a1 16) (15:Int)),()))),()))else X6)else X6)else bif (eqI (wI (a9-1)) (0:Int))then (bif (eqI (Int.tmod a1 16) (15:Int))then (bif (ltI 0 (wI (a9-1)))then (some ((((wI (a1+1)),(a3,((wI (a5-1)),(a7,((wI (a9-1)),(a11,(a11,()))))))),((wI ((8:Int)*a7)),((eqI (Int.tmod a1 16) (15:Int)),()))),()))else X3)else X3)else bif (eqI (Int.tmod a1 16) (15:Int))then (bif (ltI 0 (wI (a9-1)))then (some ((((wI (a1+1)),(a3,((wI (a5-1)),(a7,((wI (a9-1)),(a11,(false,()))))))),((wI ((8:Int)*a7)),((eqI (Int.tmod a1 16) (15:Int)),()))),()))else X5)else X5)else X1)else X1
theorem s198 (y):TE [] Tryz.f198 i198 o198 y=m198 y:=by kernel_rfl
noncomputable def r198:F198:=m198
theorem k198:KO (g198 r198):=fk (s198) trivial (by kernel_rfl)
abbrev i127:Ts:=[.a q14, .v (.int .i64)]
abbrev o127:Ts:=[.a q14, .v (.bool)]
abbrev R127:=Option (PTup o127×BTup i127)
abbrev F127:=PTup i127→R127
abbrev g127:=mkG 127 i127 o127
noncomputable def m127 (c189:F189) (c198:F198) (y:PTup i127):R127:=
  let a0:=y.1;let a1:=a0.2;let a2:=a1.2;let a3:=a2.2;let a4:=a3.2;let a5:=a4.2;let a6:=a5.2;let a7:=a6.2;let a8:=a7.2;let a9:=a8.1;let X0:R127:=bif (leI y.2.1 a0.1)then (some ((a0,(false,())),()))else bif (eqI a0.1 20000)then (some ((a0,(false,())),()))else (c198 ((a0.1,(a1.1,(a2.1,(a3.1,(a4.1,(a5.1,(a6.1,()))))))),())).bind fun r0=>bif r0.1.2.2.1 then (bif (leN ((List.length a8.2.1)+(List.length (r0.1.2.1::[]))) (E.most .i))then (some (((r0.1.1.1,(r0.1.1.2.1,(r0.1.1.2.2.1,(r0.1.1.2.2.2.1,(r0.1.1.2.2.2.2.1,(r0.1.1.2.2.2.2.2.1,(r0.1.1.2.2.2.2.2.2.1,(a7.1,(a9,((a8.2.1++(r0.1.2.1::[])),())))))))))),(true,())),()))else none)else some (((r0.1.1.1,(r0.1.1.2.1,(r0.1.1.2.2.1,(r0.1.1.2.2.2.1,(r0.1.1.2.2.2.2.1,(r0.1.1.2.2.2.2.2.1,(r0.1.1.2.2.2.2.2.2.1,a7))))))),(true,())),());bif (ltI 0 (lenI a9))then (bif (ltI 0 (lenI a9))then (bif (eqI (rdE .t a9 (0:Int)).1 a0.1)then (bif (ltI 0 (lenI a9))then (bif (leI 1 (lenI a9))then (bif (leN (0+(List.length (List.drop (Int.toNat (1:Int)) a9))) (E.most .t))then ((c189 ((a0.1,(a1.1,(a2.1,(a3.1,(a4.1,(a5.1,(a6.1,()))))))),((rdE .t a9 (0:Int)).2.1,((rdE .t a9 (0:Int)).2.2,())))).bind fun r0=>some (((r0.1.1.1,(r0.1.1.2.1,(r0.1.1.2.2.1,(r0.1.1.2.2.2.1,(r0.1.1.2.2.2.2.1,(r0.1.1.2.2.2.2.2.1,(r0.1.1.2.2.2.2.2.2.1,(a7.1,(([]++(List.drop (Int.toNat (1:Int)) a9)),a8.2))))))))),(true,())),()))else none)else none)else none)else X0)else none)else X0
theorem s127 (c189:F189) (c198:F198) (y):TE [g189 c189,g198 c198] Tryz.f127 i127 o127 y=m127 c189 c198 y:=by kernel_rfl
noncomputable def r127:F127:=m127 r189 r198
theorem k127:KO (g127 r127):=fk (s127 r189 r198) ⟨k189,k198,⟨⟩⟩ (by kernel_rfl)
abbrev i51:Ts:=[.a q11, .v (.int .i64)]
abbrev o51:Ts:=[.a q12, .v (.bool)]
abbrev F51:=FT i51 o51
abbrev g51:=mkG 51 i51 o51
noncomputable def m51 (c125:F125) (c61:F61) (c126:F126) (c127:F127) (c62:F62) (y:PTup i51):Option (PTup o51×BTup i51):=
  (c61 (y.1,())).bind fun r0=>
  bif (!r0.1.1)then (some ((([],([],([],((0:Int),((0:Int),((0:Int),((0:Int),((0:Int),(false,(false,(false,(false,(false,((0:Int),((0:Int),(false,((0:Int),(false,((0:Int),((0:Int),([],((0:Int),((0:Int),((0:Int),((0:Int),((0:Int),(false,([],([],((0:Int),([],([],((0:Int),((0:Int),((0:Int),((0:Int),((0:Int),(false,(false,((0:Int),([],([],())))))))))))))))))))))))))))))))))))))))))),(false,())),()))
  else (c62 (y.1,())).bind fun r1=>let d0:=r1.1;let d1:=d0.1;let d2:=d1.2;let d3:=d2.2;let d4:=d3.2;let d5:=d4.2;let d6:=d5.2;let d7:=d6.2;let d8:=d7.2;let d9:=d8.2;let d10:=d9.2;let d11:=d10.2;let d12:=d11.2;let d13:=d12.2;let d14:=d13.2;let d15:=d14.2;let d16:=d15.2;let d17:=d16.2;let d18:=d17.2;let d19:=d18.2;let d20:=d19.2;let d21:=d20.2;let d22:=d21.2;let d23:=d22.2;let d24:=d23.2;let d25:=d24.2;let d26:=d25.2;let d27:=d26.2;let d28:=d27.2;let d29:=d28.2;let d30:=d29.2.2;bif (eqI y.2.1 0)then ((c125 (y.1,())).bind fun r2=>
   some (r2.1,()))
  else bif (eqI y.2.1 1)then ((c126 ((d22.1,(d23.1,(d24.1,(d25.1,(d26.1,(d27.1,(d28.1,(d29.1,(d29.2.1,(d30.1,(d30.2.1,()))))))))))),(y.1.2.2.2.2.2.2.2.2.2.2.2.2.2.2.1,()))).bind fun r2=>
   some (((d1.1,(d2.1,(d3.1,(d4.1,(d5.1,(d6.1,(d7.1,(d8.1,(d9.1,(d10.1,(d11.1,(d12.1,(d13.1,(d14.1,(d15.1,(d16.1,(d17.1,(d18.1,(d19.1,(d20.1,(d21.1,(r2.1.1.1,(r2.1.1.2.1,(r2.1.1.2.2.1,(r2.1.1.2.2.2.1,(r2.1.1.2.2.2.2.1,(r2.1.1.2.2.2.2.2.1,(r2.1.1.2.2.2.2.2.2.1,(r2.1.1.2.2.2.2.2.2.2.1,(r2.1.1.2.2.2.2.2.2.2.2.1,(r2.1.1.2.2.2.2.2.2.2.2.2.1,(r2.1.1.2.2.2.2.2.2.2.2.2.2.1,d30.2.2)))))))))))))))))))))))))))))))),r2.1.2),()))
  else bif (eqI y.2.1 2)then ((c127 (d30.2.2,(y.1.2.2.2.2.2.2.2.2.2.2.2.2.2.2.1,()))).bind fun r2=>
   some (((d1.1,(d2.1,(d3.1,(d4.1,(d5.1,(d6.1,(d7.1,(d8.1,(d9.1,(d10.1,(d11.1,(d12.1,(d13.1,(d14.1,(d15.1,(d16.1,(d17.1,(d18.1,(d19.1,(d20.1,(d21.1,(d22.1,(d23.1,(d24.1,(d25.1,(d26.1,(d27.1,(d28.1,(d29.1,(d29.2.1,(d30.1,(d30.2.1,r2.1.1)))))))))))))))))))))))))))))))),r2.1.2),()))
  else some ((d1,(false,())),())
theorem s51 (c125:F125) (c61:F61) (c126:F126) (c127:F127) (c62:F62) (y):TE [g125 c125,g61 c61,g126 c126,g127 c127,g62 c62] Tryz.f51 i51 o51 y=m51 c125 c61 c126 c127 c62 y:=by kernel_rfl
noncomputable def r51:F51:=m51 r125 r61 r126 r127 r62
theorem k51:KO (g51 r51):=fk (s51 r125 r61 r126 r127 r62) ⟨k125,k61,k126,k127,k62,⟨⟩⟩ (by kernel_rfl)
end Go.Proofs.YtgpifihakjdfeaaGreat.Plain
