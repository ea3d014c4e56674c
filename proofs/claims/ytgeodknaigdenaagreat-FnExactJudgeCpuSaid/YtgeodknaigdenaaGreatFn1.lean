/- Plain functions that the program's functions answer as; their contracts. Printed by a program of the proofs' writer. No condition. -/
import Derived.Test.YtgeodknaigdenaaGreatW5
import Derived.KernelRfl
import Derived.Test.YtgeodknaigdenaaGreatFn0
set_option linter.unusedVariables false
set_option linter.unusedSimpArgs false
set_option maxRecDepth 100000
namespace Go.Proofs.YtgeodknaigdenaaGreat.Plain
open Go Go.Tev
abbrev i318:Ts:=[.r q2, .v (.int .i64)]
abbrev o318:Ts:=[.v (.int .i64)]
abbrev F318:=FT i318 o318
abbrev g318:=mkG 318 i318 o318
noncomputable def m318 (y:PTup i318):Option (PTup o318×BTup i318):=
  bif (leI 0 (Int.tmod (wI ((wI ((Int.tmod y.2.1 8)+y.1.2.2.1))+(wI (Int.tdiv y.2.1 8)))) (16:Int)))then (bif (ltI (Int.tmod (wI ((wI ((Int.tmod y.2.1 8)+y.1.2.2.1))+(wI (Int.tdiv y.2.1 8)))) (16:Int)) (lenI y.1.2.2.2.2.2.2.1))then (some (((bXor Go.IntKind.i64 (rdE .i y.1.2.2.2.2.2.2.1 (Int.tmod (wI ((wI ((Int.tmod y.2.1 8)+y.1.2.2.1))+(wI (Int.tdiv y.2.1 8)))) (16:Int))) y.1.2.2.2.2.1),()),()))
   else none)
  else none
theorem s318 (y):TE [] Tryz.f318 i318 o318 y=m318 y:=by kernel_rfl
noncomputable def r318:F318:=m318
theorem k318:KO (g318 r318):=fk (s318) trivial (by kernel_rfl)
abbrev i277:Ts:=[.p [.int .i64, .int .i64, .int .i64, .int .i64, .int .i64, .bool, .sl false .i, .sl true .i]]
abbrev o277:Ts:=[.v (.bool), .v (.sl true .i), .v (.bool)]
abbrev F277:=FT i277 o277
abbrev g277:=mkG 277 i277 o277
noncomputable def m277 (c318:F318) (y:PTup i277):Option (PTup o277×BTup i277):=
  bif (ltI (Int.tmod y.1.1 64) (48:Int))then ((c318 (((wI (y.1.1+1)),y.1.2),((Int.tmod y.1.1 64),()))).bind fun r0=>
   bif (leN ((List.length y.1.2.2.2.2.2.2.2.1)+(List.length (r0.1.1::[]))) (E.most .i))then (some ((false,([],(false,()))),(((wI (y.1.1+1)),(y.1.2.1,(y.1.2.2.1,(y.1.2.2.2.1,(y.1.2.2.2.2.1,(y.1.2.2.2.2.2.1,(y.1.2.2.2.2.2.2.1,((y.1.2.2.2.2.2.2.2.1++(r0.1.1::[])),())))))))),())))
   else none)
  else bif (eqI (Int.tmod y.1.1 64) (48:Int))then (some ((true,(y.1.2.2.2.2.2.2.2.1,((ltI 127 y.1.2.1),()))),(((wI (y.1.1+1)),(y.1.2.1,(y.1.2.2.1,(y.1.2.2.2.1,(y.1.2.2.2.2.1,(true,(y.1.2.2.2.2.2.2.1,([],())))))))),())))
  else bif (eqI (Int.tmod y.1.1 64) (63:Int))then (some ((false,([],(false,()))),(((wI (y.1.1+1)),(y.1.2.1,(y.1.2.2.1,(y.1.2.2.2.1,(y.1.2.2.2.2.1,(false,y.1.2.2.2.2.2.2)))))),())))
  else some ((false,([],(false,()))),(((wI (y.1.1+1)),y.1.2),()))
theorem s277 (c318:F318) (y):TE [g318 c318] Tryz.f277 i277 o277 y=m277 c318 y:=by kernel_rfl
noncomputable def r277:F277:=m277 r318
theorem k277:KO (g277 r277):=fk (s277 r318) ⟨k318,⟨⟩⟩ (by kernel_rfl)
abbrev i278:Ts:=[.p q12]
abbrev o278:Ts:=[.v (.int .i64), .v (.bool)]
abbrev R278:=Option (PTup o278×BTup i278)
abbrev F278:=PTup i278→R278
abbrev g278:=mkG 278 i278 o278
noncomputable def m278 (y:PTup i278):R278:=
  let a0:=y.1;let a1:=a0.1;let a2:=a0.2;let a3:=a2.1;let a4:=a2.2;let a5:=a4.1;let a6:=a4.2;let a7:=a6.1;let a8:=a6.2;let a9:=a8.1;let a10:=a8.2;let a11:=a10.1;let X0:R278:=bif (! (eqI (Int.tmod a1 16) (15:Int)))then (some (((0:Int),((eqI (Int.tmod a1 16) (15:Int)),())),(((wI (a1+1)),(a3,(a3,((wI ((1:Int)-a7)),a8)))),())))else bif (eqI a9 0)then (some (((0:Int),((eqI (Int.tmod a1 16) (15:Int)),())),(((wI (a1+1)),(a3,(a3,((wI ((1:Int)-a7)),a8)))),())))else some (((wI ((8:Int)*(wI ((1:Int)-a7)))),(true,())),(((wI (a1+1)),(a3,(a3,((wI ((1:Int)-a7)),a8)))),()));let X1:R278:=bif (! (eqI (Int.tmod a1 16) (15:Int)))then (some (((0:Int),((eqI (Int.tmod a1 16) (15:Int)),())),(((wI (a1+1)),(a3,((wI (a5-1)),a6))),())))else bif (eqI a9 0)then (some (((0:Int),((eqI (Int.tmod a1 16) (15:Int)),())),(((wI (a1+1)),(a3,((wI (a5-1)),a6))),())))else some (((wI ((8:Int)*a7)),(true,())),(((wI (a1+1)),(a3,((wI (a5-1)),a6))),()));let X2:R278:=bif (! (eqI (Int.tmod a1 16) (15:Int)))then (some (((0:Int),((eqI (Int.tmod a1 16) (15:Int)),())),(((wI (a1+1)),(a3,(a3,a6))),())))else bif (eqI a9 0)then (some (((0:Int),((eqI (Int.tmod a1 16) (15:Int)),())),(((wI (a1+1)),(a3,(a3,a6))),())))else some (((wI ((8:Int)*a7)),(true,())),(((wI (a1+1)),(a3,(a3,a6))),()));let X3:R278:=some (((0:Int),((eqI (Int.tmod a1 16) (15:Int)),())),(((wI (a1+1)),(a3,((wI (a5-1)),(a7,((wI (a9-1)),(a11,(a11,()))))))),()));let X4:R278:=some (((0:Int),((eqI (Int.tmod a1 16) (15:Int)),())),(((wI (a1+1)),(a3,(a3,((wI ((1:Int)-a7)),((wI (a9-1)),(a11,(a11,()))))))),()));let X5:R278:=some (((0:Int),((eqI (Int.tmod a1 16) (15:Int)),())),(((wI (a1+1)),(a3,((wI (a5-1)),(a7,((wI (a9-1)),(a11,(false,()))))))),()));let X6:R278:=some (((0:Int),((eqI (Int.tmod a1 16) (15:Int)),())),(((wI (a1+1)),(a3,((wI (a5-1)),(a7,((wI (a9-1)),(a11,(true,()))))))),()));let X7:R278:=some (((0:Int),((eqI (Int.tmod a1 16) (15:Int)),())),(((wI (a1+1)),(a3,(a3,((wI ((1:Int)-a7)),((wI (a9-1)),(a11,(false,()))))))),()));let X8:R278:=some (((0:Int),((eqI (Int.tmod a1 16) (15:Int)),())),(((wI (a1+1)),(a3,(a3,((wI ((1:Int)-a7)),((wI (a9-1)),(a11,(true,()))))))),()));let X9:R278:=some (((0:Int),((eqI (Int.tmod a1 16) (15:Int)),())),(((wI (a1+1)),(a3,(a3,(a7,((wI (a9-1)),(a11,(a11,()))))))),()));let X10:R278:=some (((0:Int),((eqI (Int.tmod a1 16) (15:Int)),())),(((wI (a1+1)),(a3,(a3,(a7,((wI (a9-1)),(a11,(false,()))))))),()));let X11:R278:=some (((0:Int),((eqI (Int.tmod a1 16) (15:Int)),())),(((wI (a1+1)),(a3,(a3,(a7,((wI (a9-1)),(a11,(true,()))))))),()));bif (eqI a5 0)then (bif (ltI 0 a9)then (bif (eqI (Int.tmod a1 32) (0:Int))then (bif (ltI 0 a9)then (bif a10.2.1 then (bif (! (eqI (Int.tmod a1 16) (15:Int)))then X8 else bif (eqI (wI (a9-1)) (0:Int))then X8 else some (((wI ((8:Int)*(wI ((1:Int)-a7)))),(true,())),(((wI (a1+1)),(a3,(a3,((wI ((1:Int)-a7)),((wI (a9-1)),(a11,(true,()))))))),())))else bif (eqI (wI (a9-1)) (0:Int))then (bif (! (eqI (Int.tmod a1 16) (15:Int)))then X4 else bif (eqI (wI (a9-1)) (0:Int))then X4 else some (((wI ((8:Int)*(wI ((1:Int)-a7)))),(true,())),(((wI (a1+1)),(a3,(a3,((wI ((1:Int)-a7)),((wI (a9-1)),(a11,(a11,()))))))),())))else bif (! (eqI (Int.tmod a1 16) (15:Int)))then X7 else bif (eqI (wI (a9-1)) (0:Int))then X7 else some (((wI ((8:Int)*(wI ((1:Int)-a7)))),(true,())),(((wI (a1+1)),(a3,(a3,((wI ((1:Int)-a7)),((wI (a9-1)),(a11,(false,()))))))),())))else X0)else X0)else bif (eqI (Int.tmod a1 32) (0:Int))then (bif (ltI 0 a9)then (bif a10.2.1 then (bif (! (eqI (Int.tmod a1 16) (15:Int)))then X11 else bif (eqI (wI (a9-1)) (0:Int))then X11 else some (((wI ((8:Int)*a7)),(true,())),(((wI (a1+1)),(a3,(a3,(a7,((wI (a9-1)),(a11,(true,()))))))),())))else bif (eqI (wI (a9-1)) (0:Int))then (bif (! (eqI (Int.tmod a1 16) (15:Int)))then X9 else bif (eqI (wI (a9-1)) (0:Int))then X9 else some (((wI ((8:Int)*a7)),(true,())),(((wI (a1+1)),(a3,(a3,(a7,((wI (a9-1)),(a11,(a11,()))))))),())))else bif (! (eqI (Int.tmod a1 16) (15:Int)))then X10 else bif (eqI (wI (a9-1)) (0:Int))then X10 else some (((wI ((8:Int)*a7)),(true,())),(((wI (a1+1)),(a3,(a3,(a7,((wI (a9-1)),(a11,(false,()))))))),())))else X2)else X2)else bif (eqI (Int.tmod a1 32) (0:Int))then (bif (ltI 0 a9)then (bif a10.2.1 then (bif (! (eqI (Int.tmod a1 16) (15:Int)))then X6 else bif (eqI (wI (a9-1)) (0:Int))then X6 else some (((wI ((8:Int)*a7)),(true,())),(((wI (a1+1)),(a3,((wI (a5-1)),(a7,((wI (a9-1)),(a11,(true,()))))))),())))else bif (eqI (wI (a9-1)) (0:Int))then (bif (! (eqI (Int.tmod a1 16) (15:Int)))then X3 else bif (eqI (wI (a9-1)) (0:Int))then X3 else some (((wI ((8:Int)*a7)),(true,())),(((wI (a1+1)),(a3,((wI (a5-1)),(a7,((wI (a9-1)),(a11,(a11,()))))))),())))else bif (! (eqI (Int.tmod a1 16) (15:Int)))then X5 else bif (eqI (wI (a9-1)) (0:Int))then X5 else some (((wI ((8:Int)*a7)),(true,())),(((wI (a1+1)),(a3,((wI (a5-1)),(a7,((wI (a9-1)),(a11,(false,()))))))),())))else X1)else X1
theorem s278 (y):TE [] Tryz.f278 i278 o278 y=m278 y:=by kernel_rfl
noncomputable def r278:F278:=m278
theorem k278:KO (g278 r278):=fk (s278) trivial (by kernel_rfl)
abbrev i218:Ts:=[.p q16]
abbrev o218:Ts:=[]
abbrev F218:=FT i218 o218
abbrev g218:=mkG 218 i218 o218
noncomputable def m218 (c278:F278) (c277:F277) (y:PTup i218):Option (PTup o218×BTup i218):=
  let a0:=y.1;let a1:=a0.2;let a2:=a1.2;let a3:=a2.2;let a4:=a3.2;let a5:=a4.2;let a6:=a5.2;let a7:=a6.2;let a8:=a7.2;let a9:=a8.2;let a10:=a9.2;let a11:=a10.2;let a12:=a11.2;let a13:=a12.2;let a14:=a13.2;let a15:=a14.2;let a16:=a15.2;let a17:=a16.2;let a18:=a17.2;let a19:=a18.2;let a20:=a19.2;let a21:=a20.2;let a22:=a21.2;let a23:=a22.2;let a24:=a23.2;let a25:=a24.2;let a26:=a25.2;let a27:=a26.2;let a28:=a27.2;let a29:=a28.2;let a30:=a29.2;let a31:=a30.2;let a32:=a31.2;(c277 ((a12.1,(a13.1,(a14.1,(a15.1,(a16.1,(a17.1,(a18.1,(a19.1,())))))))),())).bind fun r0=>let b0:=r0.1;let b1:=r0.2;let b2:=b0.2;let b3:=b1.1;let b4:=b3.2;let b5:=b4.2;let b6:=b5.2;let b7:=b6.2;let b8:=b7.2;let b9:=b8.2.2;bif b0.1 then (bif (leN ((List.length a31.1)+(List.length (b2.1::[]))) (E.most .n))then (bif a29.1 then ((c278 ((a20.1,(a21.1,(a22.1,(a23.1,(a24.1,(a25.1,(a26.1,()))))))),())).bind fun r1=>
     bif r1.1.2.1 then (bif (leN ((List.length a32.1)+(List.length (r1.1.1::[]))) (E.most .i))then (some ((),((a0.1,(a1.1,(a2.1,(a3.1,(a4.1,(a5.1,(a6.1,(a7.1,(a8.1,(a9.1,(a10.1,(a11.1,(b3.1,(b4.1,(b5.1,(b6.1,(b7.1,(b8.1,(a18.1,(b9.1,(r1.2.1.1,(r1.2.1.2.1,(r1.2.1.2.2.1,(r1.2.1.2.2.2.1,(r1.2.1.2.2.2.2.1,(r1.2.1.2.2.2.2.2.1,(r1.2.1.2.2.2.2.2.2.1,(a27.1,(a28.1,(true,(a30.1,((a31.1++(b2.1::[])),((a32.1++(r1.1.1::[])),a32.2))))))))))))))))))))))))))))))))),())))
      else none)
     else some ((),((a0.1,(a1.1,(a2.1,(a3.1,(a4.1,(a5.1,(a6.1,(a7.1,(a8.1,(a9.1,(a10.1,(a11.1,(b3.1,(b4.1,(b5.1,(b6.1,(b7.1,(b8.1,(a18.1,(b9.1,(r1.2.1.1,(r1.2.1.2.1,(r1.2.1.2.2.1,(r1.2.1.2.2.2.1,(r1.2.1.2.2.2.2.1,(r1.2.1.2.2.2.2.2.1,(r1.2.1.2.2.2.2.2.2.1,(a27.1,(a28.1,(true,(a30.1,((a31.1++(b2.1::[])),a32)))))))))))))))))))))))))))))))),())))
    else (c278 ((a20.1,(a21.1,(a22.1,(a23.1,(a24.1,(a25.1,(a26.1,()))))))),())).bind fun r1=>
    bif r1.1.2.1 then (bif (leN ((List.length a32.1)+(List.length (r1.1.1::[]))) (E.most .i))then (some ((),((a0.1,(a1.1,(a2.1,(a3.1,(a4.1,(a5.1,(a6.1,(a7.1,(a8.1,(a9.1,(a10.1,(a11.1,(b3.1,(b4.1,(b5.1,(b6.1,(b7.1,(b8.1,(a18.1,(b9.1,(r1.2.1.1,(r1.2.1.2.1,(r1.2.1.2.2.1,(r1.2.1.2.2.2.1,(r1.2.1.2.2.2.2.1,(r1.2.1.2.2.2.2.2.1,(r1.2.1.2.2.2.2.2.2.1,(a27.1,(a28.1,(b2.2.1,(a30.1,((a31.1++(b2.1::[])),((a32.1++(r1.1.1::[])),a32.2))))))))))))))))))))))))))))))))),())))
     else none)
    else some ((),((a0.1,(a1.1,(a2.1,(a3.1,(a4.1,(a5.1,(a6.1,(a7.1,(a8.1,(a9.1,(a10.1,(a11.1,(b3.1,(b4.1,(b5.1,(b6.1,(b7.1,(b8.1,(a18.1,(b9.1,(r1.2.1.1,(r1.2.1.2.1,(r1.2.1.2.2.1,(r1.2.1.2.2.2.1,(r1.2.1.2.2.2.2.1,(r1.2.1.2.2.2.2.2.1,(r1.2.1.2.2.2.2.2.2.1,(a27.1,(a28.1,(b2.2.1,(a30.1,((a31.1++(b2.1::[])),a32)))))))))))))))))))))))))))))))),())))
   else none)
  else bif a29.1 then ((c278 ((a20.1,(a21.1,(a22.1,(a23.1,(a24.1,(a25.1,(a26.1,()))))))),())).bind fun r1=>
   bif r1.1.2.1 then (bif (leN ((List.length a32.1)+(List.length (r1.1.1::[]))) (E.most .i))then (some ((),((a0.1,(a1.1,(a2.1,(a3.1,(a4.1,(a5.1,(a6.1,(a7.1,(a8.1,(a9.1,(a10.1,(a11.1,(b3.1,(b4.1,(b5.1,(b6.1,(b7.1,(b8.1,(a18.1,(b9.1,(r1.2.1.1,(r1.2.1.2.1,(r1.2.1.2.2.1,(r1.2.1.2.2.2.1,(r1.2.1.2.2.2.2.1,(r1.2.1.2.2.2.2.2.1,(r1.2.1.2.2.2.2.2.2.1,(a27.1,(a28.1,(true,(a30.1,(a31.1,((a32.1++(r1.1.1::[])),a32.2))))))))))))))))))))))))))))))))),())))
    else none)
   else some ((),((a0.1,(a1.1,(a2.1,(a3.1,(a4.1,(a5.1,(a6.1,(a7.1,(a8.1,(a9.1,(a10.1,(a11.1,(b3.1,(b4.1,(b5.1,(b6.1,(b7.1,(b8.1,(a18.1,(b9.1,(r1.2.1.1,(r1.2.1.2.1,(r1.2.1.2.2.1,(r1.2.1.2.2.2.1,(r1.2.1.2.2.2.2.1,(r1.2.1.2.2.2.2.2.1,(r1.2.1.2.2.2.2.2.2.1,(a27.1,(a28.1,(true,a30)))))))))))))))))))))))))))))),())))
  else (c278 ((a20.1,(a21.1,(a22.1,(a23.1,(a24.1,(a25.1,(a26.1,()))))))),())).bind fun r1=>
  bif r1.1.2.1 then (bif (leN ((List.length a32.1)+(List.length (r1.1.1::[]))) (E.most .i))then (some ((),((a0.1,(a1.1,(a2.1,(a3.1,(a4.1,(a5.1,(a6.1,(a7.1,(a8.1,(a9.1,(a10.1,(a11.1,(b3.1,(b4.1,(b5.1,(b6.1,(b7.1,(b8.1,(a18.1,(b9.1,(r1.2.1.1,(r1.2.1.2.1,(r1.2.1.2.2.1,(r1.2.1.2.2.2.1,(r1.2.1.2.2.2.2.1,(r1.2.1.2.2.2.2.2.1,(r1.2.1.2.2.2.2.2.2.1,(a27.1,(a28.1,(b2.2.1,(a30.1,(a31.1,((a32.1++(r1.1.1::[])),a32.2))))))))))))))))))))))))))))))))),())))
   else none)
  else some ((),((a0.1,(a1.1,(a2.1,(a3.1,(a4.1,(a5.1,(a6.1,(a7.1,(a8.1,(a9.1,(a10.1,(a11.1,(b3.1,(b4.1,(b5.1,(b6.1,(b7.1,(b8.1,(a18.1,(b9.1,(r1.2.1.1,(r1.2.1.2.1,(r1.2.1.2.2.1,(r1.2.1.2.2.2.1,(r1.2.1.2.2.2.2.1,(r1.2.1.2.2.2.2.2.1,(r1.2.1.2.2.2.2.2.2.1,(a27.1,(a28.1,(b2.2.1,a30)))))))))))))))))))))))))))))),()))
theorem s218 (c278:F278) (c277:F277) (y):TE [g278 c278,g277 c277] Tryz.f218 i218 o218 y=m218 c278 c277 y:=by kernel_rfl
noncomputable def r218:F218:=m218 r278 r277
theorem k218:KO (g218 r218):=fk (s218 r278 r277) ⟨k278,k277,⟨⟩⟩ (by kernel_rfl)
abbrev i146:Ts:=[.p q17]
abbrev o146:Ts:=[.v (.bool)]
abbrev R146:=Option (PTup o146×BTup i146)
abbrev F146:=PTup i146→R146
abbrev g146:=mkG 146 i146 o146
abbrev lc146_0:Ts:=[.v (.int .i64)]
abbrev lb146_0:Ts:=[.p q16]
abbrev lv146_0:Ts:=[.v (.int .i64)]
abbrev lr146_0:Ts:=[]
abbrev R146_0:=Option (Sum (PTup lv146_0) (PTup lr146_0)×BTup lb146_0)
abbrev B146_0:=PTup lb146_0→PTup lv146_0→R146_0
abbrev A146_0:=PTup lc146_0→B146_0
noncomputable def w146_0 (c216:F216) (c217:F217) (c218:F218) (c43:F43) (c156:F156) (again:B146_0) (x:PTup lc146_0) (y:PTup lb146_0) (z:PTup lv146_0):R146_0:=
  bif (ltI z.1 x.1)then ((c218 (y.1,())).bind fun r0=>let b0:=r0.2;let b1:=b0.1;let b2:=b1.2;let b3:=b2.2;let b4:=b3.2;let b5:=b4.2;let b6:=b5.2;let b7:=b6.2;let b8:=b7.2;let b9:=b8.2;let b10:=b9.2;let b11:=b10.2;let b12:=b11.2;let b13:=b12.2;let b14:=b13.2;let b15:=b14.2;let b16:=b15.2;let b17:=b16.2;let b18:=b17.2;let b19:=b18.2;let b20:=b19.2;let b21:=b20.2;let b22:=b21.2;let b23:=b22.2;let b24:=b23.2;let b25:=b24.2.2;let b26:=b25.2.2;again ((y.1.1,(y.1.2.1,(y.1.2.2.1,(b4.1,(b5.1,(b6.1,(b7.1,(b8.1,(b9.1,(b10.1,(b11.1,(b12.1,(b13.1,(b14.1,(b15.1,(b16.1,(b17.1,(b18.1,(y.1.2.2.2.2.2.2.2.2.2.2.2.2.2.2.2.2.2.2.1,(b20.1,(b21.1,(b22.1,(b23.1,(b24.1,(b24.2.1,(b25.1,(b25.2.1,(b26.1,(b26.2.1,(b26.2.2.1,(b26.2.2.2.1,(b26.2.2.2.2.1,(b26.2.2.2.2.2.1,y.1.2.2.2.2.2.2.2.2.2.2.2.2.2.2.2.2.2.2.2.2.2.2.2.2.2.2.2.2.2.2.2.2.2))))))))))))))))))))))))))))))))),()) ((wI (z.1+1)),()))
  else some ((Sum.inl z),(y.1,()))
noncomputable def e146_0 (l:A146_0):LoopE:=⟨[68],lc146_0,[0],lb146_0,[69],lv146_0,[],lr146_0,1,[],l⟩
noncomputable def m146 (c216:F216) (c217:F217) (c218:F218) (c43:F43) (c156:F156) (l0:A146_0) (y:PTup i146):R146:=
  let a0:=y.1;let a1:=a0.1;let a2:=a0.2;let a3:=a2.1;let a4:=a2.2;let a5:=a4.2;let a6:=a5.2;let a7:=a6.2;let a8:=a7.2;let a9:=a8.2;let a10:=a9.2;let a11:=a10.2;let a12:=a11.2;let a13:=a12.2;let a14:=a13.2;let a15:=a14.2;let a16:=a15.2;let a17:=a16.2;let a18:=a17.2;let a19:=a18.2;let a20:=a19.2;let a21:=a20.1;let a22:=a20.2;let a23:=a22.1;let a24:=a22.2;let a25:=a24.2;let a26:=a25.2;let a27:=a26.2;let a28:=a27.2;let a29:=a28.2;let a30:=a29.2;let a31:=a30.2;let a32:=a31.2;let a33:=a32.2;let a34:=a33.2;let a35:=a34.2;let a36:=a35.2;let a37:=a36.2;let X0:R146:=(c216 ((a1,(a3,(a4.1,(a5.1,(a6.1,(a7.1,(a8.1,(a9.1,(a10.1,(a11.1,(a12.1,(a13.1,(a14.1,(a15.1,(a16.1,(a17.1,(a18.1,(a19.1,(a21,(a23,(a24.1,(a25.1,(a26.1,(a27.1,(a28.1,(a29.1,(a30.1,(a31.1,(a32.1,(false,a34)))))))))))))))))))))))))))))),((65530:Int),()))).bind fun r2=>let f0:=r2.2;let f1:=f0.1;let f2:=f1.2;let f3:=f2.2;let f4:=f3.2;let f5:=f4.2;let f6:=f5.2;let f7:=f6.2;let f8:=f7.2;let f9:=f8.2;let f10:=f9.2;let f11:=f10.2;let f12:=f11.2;let f13:=f12.2;let f14:=f13.2;let f15:=f14.2;let f16:=f15.2;let f17:=f16.2;let f18:=f17.2;let f19:=f18.2;let f20:=f19.2;let f21:=f20.2;let f22:=f21.2;let f23:=f22.2.2;let f24:=f23.2.2;(l0 ((7:Int),()) ((a1,(a3,(f3.1,(f4.1,(f5.1,(f6.1,(f7.1,(f8.1,(f9.1,(f10.1,(f11.1,(f12.1,(f13.1,(f14.1,(f15.1,(f16.1,(f17.1,(f18.1,(a21,(a23,(f21.1,(f22.1,(f22.2.1,(f23.1,(f23.2.1,(f24.1,(f24.2.1,(f24.2.2.1,(f24.2.2.2.1,(f24.2.2.2.2.1,(f24.2.2.2.2.2.1,a35))))))))))))))))))))))))))))))),()) ((0:Int),())).bind fun r3=>let g0:=r3.2;let g1:=g0.1;let g2:=g1.2;let g3:=g2.2;let g4:=g3.2;let g5:=g4.2;let g6:=g5.2;let g7:=g6.2;let g8:=g7.2;let g9:=g8.2;let g10:=g9.2;let g11:=g10.2;let g12:=g11.2;let g13:=g12.2;let g14:=g13.2;let g15:=g14.2;let g16:=g15.2;let g17:=g16.2;let g18:=g17.2;let g19:=g18.2;let g20:=g19.2;let g21:=g20.2;let g22:=g21.2;let g23:=g22.2;let g24:=g23.2;let g25:=g24.2;let g26:=g25.2;let g27:=g26.2;let g28:=g27.2;let g29:=g28.2;let g30:=g29.2.2;sumElim r3.1 (fun r4=>some ((true,()),((a1,(a3,(f3.1,(g4.1,(g5.1,(g6.1,(g7.1,(g8.1,(g9.1,(g10.1,(g11.1,(g12.1,(g13.1,(g14.1,(g15.1,(g16.1,(g17.1,(g18.1,(a21,(g20.1,(g21.1,(g22.1,(g23.1,(g24.1,(g25.1,(g26.1,(g27.1,(g28.1,(g29.1,(g29.2.1,((wI (g30.1+1)),(g30.2.1,(g30.2.2.1,a37))))))))))))))))))))))))))))))))),()))) (fun r4=>some ((false,()),((a1,(a3,(f3.1,(g4.1,(g5.1,(g6.1,(g7.1,(g8.1,(g9.1,(g10.1,(g11.1,(g12.1,(g13.1,(g14.1,(g15.1,(g16.1,(g17.1,(g18.1,(a21,(g20.1,(g21.1,(g22.1,(g23.1,(g24.1,(g25.1,(g26.1,(g27.1,(g28.1,(g29.1,(g29.2.1,(g30.1,(g30.2.1,(g30.2.2.1,a37))))))))))))))))))))))))))))))))),())));let X1:R146:=(c216 (a0,((65534:Int),()))).bind fun r2=>let f0:=r2.2;let f1:=f0.1;let f2:=f1.2;let f3:=f2.2;let f4:=f3.2;let f5:=f4.2;let f6:=f5.2;let f7:=f6.2;let f8:=f7.2;let f9:=f8.2;let f10:=f9.2;let f11:=f10.2;let f12:=f11.2;let f13:=f12.2;let f14:=f13.2;let f15:=f14.2;let f16:=f15.2;let f17:=f16.2;let f18:=f17.2;let f19:=f18.2;let f20:=f19.2;let f21:=f20.2;let f22:=f21.2;let f23:=f22.2.2;let f24:=f23.2.2;(l0 ((7:Int),()) ((a1,(a3,(f3.1,(f4.1,(f5.1,(f6.1,(f7.1,(f8.1,(f9.1,(f10.1,(f11.1,(f12.1,(f13.1,(f14.1,(f15.1,(f16.1,(f17.1,(f18.1,(a21,(a23,(f21.1,(f22.1,(f22.2.1,(f23.1,(f23.2.1,(f24.1,(f24.2.1,(f24.2.2.1,(f24.2.2.2.1,(f24.2.2.2.2.1,(f24.2.2.2.2.2.1,a35))))))))))))))))))))))))))))))),()) ((0:Int),())).bind fun r3=>let g0:=r3.2;let g1:=g0.1;let g2:=g1.2;let g3:=g2.2;let g4:=g3.2;let g5:=g4.2;let g6:=g5.2;let g7:=g6.2;let g8:=g7.2;let g9:=g8.2;let g10:=g9.2;let g11:=g10.2;let g12:=g11.2;let g13:=g12.2;let g14:=g13.2;let g15:=g14.2;let g16:=g15.2;let g17:=g16.2;let g18:=g17.2;let g19:=g18.2;let g20:=g19.2;let g21:=g20.2;let g22:=g21.2;let g23:=g22.2;let g24:=g23.2;let g25:=g24.2;let g26:=g25.2;let g27:=g26.2;let g28:=g27.2;let g29:=g28.2;let g30:=g29.2.2;sumElim r3.1 (fun r4=>some ((true,()),((a1,(a3,(f3.1,(g4.1,(g5.1,(g6.1,(g7.1,(g8.1,(g9.1,(g10.1,(g11.1,(g12.1,(g13.1,(g14.1,(g15.1,(g16.1,(g17.1,(g18.1,(a21,(g20.1,(g21.1,(g22.1,(g23.1,(g24.1,(g25.1,(g26.1,(g27.1,(g28.1,(g29.1,(g29.2.1,((wI (g30.1+1)),(g30.2.1,(g30.2.2.1,a37))))))))))))))))))))))))))))))))),()))) (fun r4=>some ((false,()),((a1,(a3,(f3.1,(g4.1,(g5.1,(g6.1,(g7.1,(g8.1,(g9.1,(g10.1,(g11.1,(g12.1,(g13.1,(g14.1,(g15.1,(g16.1,(g17.1,(g18.1,(a21,(g20.1,(g21.1,(g22.1,(g23.1,(g24.1,(g25.1,(g26.1,(g27.1,(g28.1,(g29.1,(g29.2.1,(g30.1,(g30.2.1,(g30.2.2.1,a37))))))))))))))))))))))))))))))))),())));bif a33.1 then ((c156 ((a1,()),((a4.1,(a5.1,())),(a9.1,())))).bind fun r0=>(c43 (r0.1.1.1,())).bind fun r1=>bif (ltI 20000 (wI (a14.1+7)))then (some ((false,()),(a0,())))else bif a33.1 then X0 else X1)else bif a30.1 then ((c156 ((a1,()),((a4.1,(a5.1,())),(a9.1,())))).bind fun r0=>(c43 (r0.1.1.1,())).bind fun r1=>bif (!a13.1)then (bif (ltI 20000 (wI (a14.1+7)))then (some ((false,()),(a0,())))else bif a33.1 then X0 else bif (!a13.1)then X1 else (c217 (a0,(r0.1.1,()))).bind fun r2=>let f0:=r2.2;let f1:=f0.1;let f2:=f1.2;let f3:=f2.2;let f4:=f3.2;let f5:=f4.2;let f6:=f5.2;let f7:=f6.2;let f8:=f7.2;let f9:=f8.2;let f10:=f9.2;let f11:=f10.2;let f12:=f11.2;let f13:=f12.2;let f14:=f13.2;let f15:=f14.2;let f16:=f15.2;let f17:=f16.2;let f18:=f17.2;let f19:=f18.2;let f20:=f19.2;let f21:=f20.2;let f22:=f21.2;let f23:=f22.2;let f24:=f23.2;let f25:=f24.2;let f26:=f25.2.2;let f27:=f26.2.2;let f28:=f27.2.2.2.2.2;(l0 ((7:Int),()) ((a1,(a3,(f3.1,(f4.1,(f5.1,(f6.1,(f7.1,(f8.1,(f9.1,(f10.1,(f11.1,(f12.1,(f13.1,(f14.1,(f15.1,(f16.1,(f17.1,(f18.1,(f19.1,(a23,(f21.1,(f22.1,(f23.1,(f24.1,(f25.1,(f25.2.1,(f26.1,(f26.2.1,(f27.1,(f27.2.1,(f27.2.2.1,(a35.1,(a36.1,f28))))))))))))))))))))))))))))))))),()) ((0:Int),())).bind fun r3=>let g0:=r3.2;let g1:=g0.1;let g2:=g1.2;let g3:=g2.2;let g4:=g3.2;let g5:=g4.2;let g6:=g5.2;let g7:=g6.2;let g8:=g7.2;let g9:=g8.2;let g10:=g9.2;let g11:=g10.2;let g12:=g11.2;let g13:=g12.2;let g14:=g13.2;let g15:=g14.2;let g16:=g15.2;let g17:=g16.2;let g18:=g17.2;let g19:=g18.2;let g20:=g19.2;let g21:=g20.2;let g22:=g21.2;let g23:=g22.2;let g24:=g23.2;let g25:=g24.2;let g26:=g25.2;let g27:=g26.2;let g28:=g27.2;let g29:=g28.2;let g30:=g29.2.2;sumElim r3.1 (fun r4=>some ((true,()),((a1,(a3,(f3.1,(g4.1,(g5.1,(g6.1,(g7.1,(g8.1,(g9.1,(g10.1,(g11.1,(g12.1,(g13.1,(g14.1,(g15.1,(g16.1,(g17.1,(g18.1,(f19.1,(g20.1,(g21.1,(g22.1,(g23.1,(g24.1,(g25.1,(g26.1,(g27.1,(g28.1,(g29.1,(g29.2.1,((wI (g30.1+1)),(g30.2.1,(g30.2.2.1,f28))))))))))))))))))))))))))))))))),()))) (fun r4=>some ((false,()),((a1,(a3,(f3.1,(g4.1,(g5.1,(g6.1,(g7.1,(g8.1,(g9.1,(g10.1,(g11.1,(g12.1,(g13.1,(g14.1,(g15.1,(g16.1,(g17.1,(g18.1,(f19.1,(g20.1,(g21.1,(g22.1,(g23.1,(g24.1,(g25.1,(g26.1,(g27.1,(g28.1,(g29.1,(g29.2.1,(g30.1,(g30.2.1,(g30.2.2.1,f28))))))))))))))))))))))))))))))))),()))))else bif (ltI 20000 (wI (a14.1+r1.1.1)))then (some ((false,()),(a0,())))else bif a33.1 then ((c216 ((a1,(a3,(a4.1,(a5.1,(a6.1,(a7.1,(a8.1,(a9.1,(a10.1,(a11.1,(a12.1,(a13.1,(a14.1,(a15.1,(a16.1,(a17.1,(a18.1,(a19.1,(a21,(a23,(a24.1,(a25.1,(a26.1,(a27.1,(a28.1,(a29.1,(a30.1,(a31.1,(a32.1,(false,a34)))))))))))))))))))))))))))))),((65530:Int),()))).bind fun r2=>let f0:=r2.2;let f1:=f0.1;let f2:=f1.2;let f3:=f2.2;let f4:=f3.2;let f5:=f4.2;let f6:=f5.2;let f7:=f6.2;let f8:=f7.2;let f9:=f8.2;let f10:=f9.2;let f11:=f10.2;let f12:=f11.2;let f13:=f12.2;let f14:=f13.2;let f15:=f14.2;let f16:=f15.2;let f17:=f16.2;let f18:=f17.2;let f19:=f18.2;let f20:=f19.2;let f21:=f20.2;let f22:=f21.2;let f23:=f22.2.2;let f24:=f23.2.2;(l0 r1.1 ((a1,(a3,(f3.1,(f4.1,(f5.1,(f6.1,(f7.1,(f8.1,(f9.1,(f10.1,(f11.1,(f12.1,(f13.1,(f14.1,(f15.1,(f16.1,(f17.1,(f18.1,(a21,(a23,(f21.1,(f22.1,(f22.2.1,(f23.1,(f23.2.1,(f24.1,(f24.2.1,(f24.2.2.1,(f24.2.2.2.1,(f24.2.2.2.2.1,(f24.2.2.2.2.2.1,a35))))))))))))))))))))))))))))))),()) ((0:Int),())).bind fun r3=>let g0:=r3.2;let g1:=g0.1;let g2:=g1.2;let g3:=g2.2;let g4:=g3.2;let g5:=g4.2;let g6:=g5.2;let g7:=g6.2;let g8:=g7.2;let g9:=g8.2;let g10:=g9.2;let g11:=g10.2;let g12:=g11.2;let g13:=g12.2;let g14:=g13.2;let g15:=g14.2;let g16:=g15.2;let g17:=g16.2;let g18:=g17.2;let g19:=g18.2;let g20:=g19.2;let g21:=g20.2;let g22:=g21.2;let g23:=g22.2;let g24:=g23.2;let g25:=g24.2;let g26:=g25.2;let g27:=g26.2;let g28:=g27.2;let g29:=g28.2;let g30:=g29.2.2;sumElim r3.1 (fun r4=>some ((true,()),((a1,(a3,(f3.1,(g4.1,(g5.1,(g6.1,(g7.1,(g8.1,(g9.1,(g10.1,(g11.1,(g12.1,(g13.1,(g14.1,(g15.1,(g16.1,(g17.1,(g18.1,(a21,(g20.1,(g21.1,(g22.1,(g23.1,(g24.1,(g25.1,(g26.1,(g27.1,(g28.1,(g29.1,(g29.2.1,((wI (g30.1+1)),(g30.2.1,(g30.2.2.1,a37))))))))))))))))))))))))))))))))),()))) (fun r4=>some ((false,()),((a1,(a3,(f3.1,(g4.1,(g5.1,(g6.1,(g7.1,(g8.1,(g9.1,(g10.1,(g11.1,(g12.1,(g13.1,(g14.1,(g15.1,(g16.1,(g17.1,(g18.1,(a21,(g20.1,(g21.1,(g22.1,(g23.1,(g24.1,(g25.1,(g26.1,(g27.1,(g28.1,(g29.1,(g29.2.1,(g30.1,(g30.2.1,(g30.2.2.1,a37))))))))))))))))))))))))))))))))),()))))else bif (!a13.1)then ((c216 (a0,((65534:Int),()))).bind fun r2=>let f0:=r2.2;let f1:=f0.1;let f2:=f1.2;let f3:=f2.2;let f4:=f3.2;let f5:=f4.2;let f6:=f5.2;let f7:=f6.2;let f8:=f7.2;let f9:=f8.2;let f10:=f9.2;let f11:=f10.2;let f12:=f11.2;let f13:=f12.2;let f14:=f13.2;let f15:=f14.2;let f16:=f15.2;let f17:=f16.2;let f18:=f17.2;let f19:=f18.2;let f20:=f19.2;let f21:=f20.2;let f22:=f21.2;let f23:=f22.2.2;let f24:=f23.2.2;(l0 r1.1 ((a1,(a3,(f3.1,(f4.1,(f5.1,(f6.1,(f7.1,(f8.1,(f9.1,(f10.1,(f11.1,(f12.1,(f13.1,(f14.1,(f15.1,(f16.1,(f17.1,(f18.1,(a21,(a23,(f21.1,(f22.1,(f22.2.1,(f23.1,(f23.2.1,(f24.1,(f24.2.1,(f24.2.2.1,(f24.2.2.2.1,(f24.2.2.2.2.1,(f24.2.2.2.2.2.1,a35))))))))))))))))))))))))))))))),()) ((0:Int),())).bind fun r3=>let g0:=r3.2;let g1:=g0.1;let g2:=g1.2;let g3:=g2.2;let g4:=g3.2;let g5:=g4.2;let g6:=g5.2;let g7:=g6.2;let g8:=g7.2;let g9:=g8.2;let g10:=g9.2;let g11:=g10.2;let g12:=g11.2;let g13:=g12.2;let g14:=g13.2;let g15:=g14.2;let g16:=g15.2;let g17:=g16.2;let g18:=g17.2;let g19:=g18.2;let g20:=g19.2;let g21:=g20.2;let g22:=g21.2;let g23:=g22.2;let g24:=g23.2;let g25:=g24.2;let g26:=g25.2;let g27:=g26.2;let g28:=g27.2;let g29:=g28.2;let g30:=g29.2.2;sumElim r3.1 (fun r4=>some ((true,()),((a1,(a3,(f3.1,(g4.1,(g5.1,(g6.1,(g7.1,(g8.1,(g9.1,(g10.1,(g11.1,(g12.1,(g13.1,(g14.1,(g15.1,(g16.1,(g17.1,(g18.1,(a21,(g20.1,(g21.1,(g22.1,(g23.1,(g24.1,(g25.1,(g26.1,(g27.1,(g28.1,(g29.1,(g29.2.1,((wI (g30.1+1)),(g30.2.1,(g30.2.2.1,a37))))))))))))))))))))))))))))))))),()))) (fun r4=>some ((false,()),((a1,(a3,(f3.1,(g4.1,(g5.1,(g6.1,(g7.1,(g8.1,(g9.1,(g10.1,(g11.1,(g12.1,(g13.1,(g14.1,(g15.1,(g16.1,(g17.1,(g18.1,(a21,(g20.1,(g21.1,(g22.1,(g23.1,(g24.1,(g25.1,(g26.1,(g27.1,(g28.1,(g29.1,(g29.2.1,(g30.1,(g30.2.1,(g30.2.2.1,a37))))))))))))))))))))))))))))))))),()))))else (c217 (a0,(r0.1.1,()))).bind fun r2=>let f0:=r2.2;let f1:=f0.1;let f2:=f1.2;let f3:=f2.2;let f4:=f3.2;let f5:=f4.2;let f6:=f5.2;let f7:=f6.2;let f8:=f7.2;let f9:=f8.2;let f10:=f9.2;let f11:=f10.2;let f12:=f11.2;let f13:=f12.2;let f14:=f13.2;let f15:=f14.2;let f16:=f15.2;let f17:=f16.2;let f18:=f17.2;let f19:=f18.2;let f20:=f19.2;let f21:=f20.2;let f22:=f21.2;let f23:=f22.2;let f24:=f23.2;let f25:=f24.2;let f26:=f25.2.2;let f27:=f26.2.2;let f28:=f27.2.2.2.2.2;(l0 r1.1 ((a1,(a3,(f3.1,(f4.1,(f5.1,(f6.1,(f7.1,(f8.1,(f9.1,(f10.1,(f11.1,(f12.1,(f13.1,(f14.1,(f15.1,(f16.1,(f17.1,(f18.1,(f19.1,(a23,(f21.1,(f22.1,(f23.1,(f24.1,(f25.1,(f25.2.1,(f26.1,(f26.2.1,(f27.1,(f27.2.1,(f27.2.2.1,(a35.1,(a36.1,f28))))))))))))))))))))))))))))))))),()) ((0:Int),())).bind fun r3=>let g0:=r3.2;let g1:=g0.1;let g2:=g1.2;let g3:=g2.2;let g4:=g3.2;let g5:=g4.2;let g6:=g5.2;let g7:=g6.2;let g8:=g7.2;let g9:=g8.2;let g10:=g9.2;let g11:=g10.2;let g12:=g11.2;let g13:=g12.2;let g14:=g13.2;let g15:=g14.2;let g16:=g15.2;let g17:=g16.2;let g18:=g17.2;let g19:=g18.2;let g20:=g19.2;let g21:=g20.2;let g22:=g21.2;let g23:=g22.2;let g24:=g23.2;let g25:=g24.2;let g26:=g25.2;let g27:=g26.2;let g28:=g27.2;let g29:=g28.2;let g30:=g29.2.2;sumElim r3.1 (fun r4=>some ((true,()),((a1,(a3,(f3.1,(g4.1,(g5.1,(g6.1,(g7.1,(g8.1,(g9.1,(g10.1,(g11.1,(g12.1,(g13.1,(g14.1,(g15.1,(g16.1,(g17.1,(g18.1,(f19.1,(g20.1,(g21.1,(g22.1,(g23.1,(g24.1,(g25.1,(g26.1,(g27.1,(g28.1,(g29.1,(g29.2.1,((wI (g30.1+1)),(g30.2.1,(g30.2.2.1,f28))))))))))))))))))))))))))))))))),()))) (fun r4=>some ((false,()),((a1,(a3,(f3.1,(g4.1,(g5.1,(g6.1,(g7.1,(g8.1,(g9.1,(g10.1,(g11.1,(g12.1,(g13.1,(g14.1,(g15.1,(g16.1,(g17.1,(g18.1,(f19.1,(g20.1,(g21.1,(g22.1,(g23.1,(g24.1,(g25.1,(g26.1,(g27.1,(g28.1,(g29.1,(g29.2.1,(g30.1,(g30.2.1,(g30.2.2.1,f28))))))))))))))))))))))))))))))))),()))))else (c156 ((a1,()),((a4.1,(a5.1,())),(a9.1,())))).bind fun r0=>(c43 (r0.1.1.1,())).bind fun r1=>bif (ltI 20000 (wI (a14.1+r1.1.1)))then (some ((false,()),(a0,())))else bif a33.1 then ((c216 ((a1,(a3,(a4.1,(a5.1,(a6.1,(a7.1,(a8.1,(a9.1,(a10.1,(a11.1,(a12.1,(a13.1,(a14.1,(a15.1,(a16.1,(a17.1,(a18.1,(a19.1,(a21,(a23,(a24.1,(a25.1,(a26.1,(a27.1,(a28.1,(a29.1,(a30.1,(a31.1,(a32.1,(false,a34)))))))))))))))))))))))))))))),((65530:Int),()))).bind fun r2=>let f0:=r2.2;let f1:=f0.1;let f2:=f1.2;let f3:=f2.2;let f4:=f3.2;let f5:=f4.2;let f6:=f5.2;let f7:=f6.2;let f8:=f7.2;let f9:=f8.2;let f10:=f9.2;let f11:=f10.2;let f12:=f11.2;let f13:=f12.2;let f14:=f13.2;let f15:=f14.2;let f16:=f15.2;let f17:=f16.2;let f18:=f17.2;let f19:=f18.2;let f20:=f19.2;let f21:=f20.2;let f22:=f21.2;let f23:=f22.2.2;let f24:=f23.2.2;(l0 r1.1 ((a1,(a3,(f3.1,(f4.1,(f5.1,(f6.1,(f7.1,(f8.1,(f9.1,(f10.1,(f11.1,(f12.1,(f13.1,(f14.1,(f15.1,(f16.1,(f17.1,(f18.1,(a21,(a23,(f21.1,(f22.1,(f22.2.1,(f23.1,(f23.2.1,(f24.1,(f24.2.1,(f24.2.2.1,(f24.2.2.2.1,(f24.2.2.2.2.1,(f24.2.2.2.2.2.1,a35))))))))))))))))))))))))))))))),()) ((0:Int),())).bind fun r3=>let g0:=r3.2;let g1:=g0.1;let g2:=g1.2;let g3:=g2.2;let g4:=g3.2;let g5:=g4.2;let g6:=g5.2;let g7:=g6.2;let g8:=g7.2;let g9:=g8.2;let g10:=g9.2;let g11:=g10.2;let g12:=g11.2;let g13:=g12.2;let g14:=g13.2;let g15:=g14.2;let g16:=g15.2;let g17:=g16.2;let g18:=g17.2;let g19:=g18.2;let g20:=g19.2;let g21:=g20.2;let g22:=g21.2;let g23:=g22.2;let g24:=g23.2;let g25:=g24.2;let g26:=g25.2;let g27:=g26.2;let g28:=g27.2;let g29:=g28.2;let g30:=g29.2.2;sumElim r3.1 (fun r4=>some ((true,()),((a1,(a3,(f3.1,(g4.1,(g5.1,(g6.1,(g7.1,(g8.1,(g9.1,(g10.1,(g11.1,(g12.1,(g13.1,(g14.1,(g15.1,(g16.1,(g17.1,(g18.1,(a21,(g20.1,(g21.1,(g22.1,(g23.1,(g24.1,(g25.1,(g26.1,(g27.1,(g28.1,(g29.1,(g29.2.1,((wI (g30.1+1)),(g30.2.1,(g30.2.2.1,a37))))))))))))))))))))))))))))))))),()))) (fun r4=>some ((false,()),((a1,(a3,(f3.1,(g4.1,(g5.1,(g6.1,(g7.1,(g8.1,(g9.1,(g10.1,(g11.1,(g12.1,(g13.1,(g14.1,(g15.1,(g16.1,(g17.1,(g18.1,(a21,(g20.1,(g21.1,(g22.1,(g23.1,(g24.1,(g25.1,(g26.1,(g27.1,(g28.1,(g29.1,(g29.2.1,(g30.1,(g30.2.1,(g30.2.2.1,a37))))))))))))))))))))))))))))))))),()))))else (c217 (a0,(r0.1.1,()))).bind fun r2=>let f0:=r2.2;let f1:=f0.1;let f2:=f1.2;let f3:=f2.2;let f4:=f3.2;let f5:=f4.2;let f6:=f5.2;let f7:=f6.2;let f8:=f7.2;let f9:=f8.2;let f10:=f9.2;let f11:=f10.2;let f12:=f11.2;let f13:=f12.2;let f14:=f13.2;let f15:=f14.2;let f16:=f15.2;let f17:=f16.2;let f18:=f17.2;let f19:=f18.2;let f20:=f19.2;let f21:=f20.2;let f22:=f21.2;let f23:=f22.2;let f24:=f23.2;let f25:=f24.2;let f26:=f25.2.2;let f27:=f26.2.2;let f28:=f27.2.2.2.2.2;(l0 r1.1 ((a1,(a3,(f3.1,(f4.1,(f5.1,(f6.1,(f7.1,(f8.1,(f9.1,(f10.1,(f11.1,(f12.1,(f13.1,(f14.1,(f15.1,(f16.1,(f17.1,(f18.1,(f19.1,(a23,(f21.1,(f22.1,(f23.1,(f24.1,(f25.1,(f25.2.1,(f26.1,(f26.2.1,(f27.1,(f27.2.1,(f27.2.2.1,(a35.1,(a36.1,f28))))))))))))))))))))))))))))))))),()) ((0:Int),())).bind fun r3=>let g0:=r3.2;let g1:=g0.1;let g2:=g1.2;let g3:=g2.2;let g4:=g3.2;let g5:=g4.2;let g6:=g5.2;let g7:=g6.2;let g8:=g7.2;let g9:=g8.2;let g10:=g9.2;let g11:=g10.2;let g12:=g11.2;let g13:=g12.2;let g14:=g13.2;let g15:=g14.2;let g16:=g15.2;let g17:=g16.2;let g18:=g17.2;let g19:=g18.2;let g20:=g19.2;let g21:=g20.2;let g22:=g21.2;let g23:=g22.2;let g24:=g23.2;let g25:=g24.2;let g26:=g25.2;let g27:=g26.2;let g28:=g27.2;let g29:=g28.2;let g30:=g29.2.2;sumElim r3.1 (fun r4=>some ((true,()),((a1,(a3,(f3.1,(g4.1,(g5.1,(g6.1,(g7.1,(g8.1,(g9.1,(g10.1,(g11.1,(g12.1,(g13.1,(g14.1,(g15.1,(g16.1,(g17.1,(g18.1,(f19.1,(g20.1,(g21.1,(g22.1,(g23.1,(g24.1,(g25.1,(g26.1,(g27.1,(g28.1,(g29.1,(g29.2.1,((wI (g30.1+1)),(g30.2.1,(g30.2.2.1,f28))))))))))))))))))))))))))))))))),()))) (fun r4=>some ((false,()),((a1,(a3,(f3.1,(g4.1,(g5.1,(g6.1,(g7.1,(g8.1,(g9.1,(g10.1,(g11.1,(g12.1,(g13.1,(g14.1,(g15.1,(g16.1,(g17.1,(g18.1,(f19.1,(g20.1,(g21.1,(g22.1,(g23.1,(g24.1,(g25.1,(g26.1,(g27.1,(g28.1,(g29.1,(g29.2.1,(g30.1,(g30.2.1,(g30.2.2.1,f28))))))))))))))))))))))))))))))))),())))
noncomputable def E146 (c216:F216) (c217:F217) (c218:F218) (c43:F43) (c156:F156) (l0:A146_0):CEnv:=⟨⟨Tryz.prog,fnsL [g216 c216,g217 c217,g218 c218,g43 c43,g156 c156]⟩,loopsL [(15,e146_0 l0)]⟩
theorem t146_0 (c216:F216) (c217:F217) (c218:F218) (c43:F43) (c156:F156) (l0:A146_0) (again) (x y z):loopRound (E146 c216 c217 c218 c43 c156 l0) (loopAt (bodyOf Tryz.f146) 0) (e146_0 l0) Tryz.f146.ntmps again x y z=w146_0 c216 c217 c218 c43 c156 again x y z:=by kernel_rfl
noncomputable def n146_0 (c216:F216) (c217:F217) (c218:F218) (c43:F43) (c156:F156):Nat→A146_0
  |0,_,_,_=>none
  |n+1,x,y,z=>w146_0 c216 c217 c218 c43 c156 (fun y z=>n146_0 c216 c217 c218 c43 c156 n x y z) x y z
theorem s146 (c216:F216) (c217:F217) (c218:F218) (c43:F43) (c156:F156) (l0:A146_0) (y):tevF (E146 c216 c217 c218 c43 c156 l0) Tryz.f146 i146 o146 y=m146 c216 c217 c218 c43 c156 l0 y:=by kernel_rfl
noncomputable def L146_0:A146_0:=n146_0 r216 r217 r218 r43 r156 fuel
noncomputable def r146:F146:=m146 r216 r217 r218 r43 r156 L146_0
theorem k146:KO (g146 r146):=by
  have hE: ∀g f,(E146 r216 r217 r218 r43 r156 L146_0).env.fns g=some f→CallOk Tryz.prog g f:=fnsL_ok ⟨k216,k217,k218,k43,k156,⟨⟩⟩
  have h0:LoopOk Tryz.prog Tryz.f146.ntmps (loopAt (bodyOf Tryz.f146) 0) (e146_0 L146_0):=lp_ok (E:=E146 r216 r217 r218 r43 r156 L146_0) rfl hE mixed (AllLoops.of_list (l:=[]) (by kernel_rfl) trivial) (n146_0 r216 r217 r218 r43 r156) (fun _ _ _=>rfl) (fun n x y z=>t146_0 r216 r217 r218 r43 r156 L146_0 _ x y z) rfl
  exact fn_ok (E:=E146 r216 r217 r218 r43 r156 L146_0) rfl hE mixed (by kernel_rfl) (by kernel_rfl) (AllLoops.of_list (l:=[(loopAt (bodyOf Tryz.f146) 0)]) (by kernel_rfl) (.one (by kernel_rfl) h0 trivial)) (s146 r216 r217 r218 r43 r156 L146_0)
abbrev i46:Ts:=[.a q13, .v (.int .i64)]
abbrev o46:Ts:=[.a q14, .v (.int .i64)]
abbrev R46:=Option (PTup o46×BTup i46)
abbrev F46:=PTup i46→R46
abbrev g46:=mkG 46 i46 o46
abbrev lc46_0:Ts:=[.v (.int .i64)]
abbrev lb46_0:Ts:=[.p q17]
abbrev lv46_0:Ts:=[.v (.int .i64)]
abbrev lr46_0:Ts:=[]
abbrev R46_0:=Option (Sum (PTup lv46_0) (PTup lr46_0)×BTup lb46_0)
abbrev B46_0:=PTup lb46_0→PTup lv46_0→R46_0
abbrev A46_0:=PTup lc46_0→B46_0
noncomputable def w46_0 (c146:F146) (c41:F41) (c145:F145) (again:B46_0) (x:PTup lc46_0) (y:PTup lb46_0) (z:PTup lv46_0):R46_0:=
  bif (ltI z.1 (mnI x.1 (3000:Int)))then ((c146 (y.1,())).bind fun r0=>
   bif (!r0.1.1)then (some ((Sum.inl z),((y.1.1,(y.1.2.1,r0.2.1.2.2)),())))
   else again ((y.1.1,(y.1.2.1,r0.2.1.2.2)),()) ((wI (z.1+1)),()))
  else some ((Sum.inl z),(y.1,()))
noncomputable def e46_0 (l:A46_0):LoopE:=⟨[1],lc46_0,[6],lb46_0,[7],lv46_0,[],lr46_0,0,[],l⟩
noncomputable def m46 (c146:F146) (c41:F41) (c145:F145) (l0:A46_0) (y:PTup i46):R46:=
  let X0:R46:=some ((([],([],([],((0:Int),((0:Int),((0:Int),((0:Int),((0:Int),(false,(false,(false,(false,((0:Int),((0:Int),((0:Int),((0:Int),((0:Int),(false,([],([],((0:Int),((0:Int),((0:Int),((0:Int),((0:Int),(false,(false,(false,((0:Int),(false,((0:Int),([],([],([],())))))))))))))))))))))))))))))))))),((0:Int),())),());(c41 (y.1,())).bind fun r0=>bif (!r0.1.1)then X0 else (c145 (y.1,())).bind fun r1=>(l0 y.2 (r1.1.1,()) ((0:Int),())).bind fun r2=>sumElim r2.1 (fun r3=>some (((r1.1.1.1,(r1.1.1.2.1,r2.2.1.2.2)),r3),())) (fun r3=>X0)
noncomputable def E46 (c146:F146) (c41:F41) (c145:F145) (l0:A46_0):CEnv:=⟨⟨Tryz.prog,fnsL [g146 c146,g41 c41,g145 c145]⟩,loopsL [(5,e46_0 l0)]⟩
theorem t46_0 (c146:F146) (c41:F41) (c145:F145) (l0:A46_0) (again) (x y z):loopRound (E46 c146 c41 c145 l0) (loopAt (bodyOf Tryz.f46) 0) (e46_0 l0) Tryz.f46.ntmps again x y z=w46_0 c146 c41 c145 again x y z:=by kernel_rfl
noncomputable def n46_0 (c146:F146) (c41:F41) (c145:F145):Nat→A46_0
  |0,_,_,_=>none
  |n+1,x,y,z=>w46_0 c146 c41 c145 (fun y z=>n46_0 c146 c41 c145 n x y z) x y z
theorem s46 (c146:F146) (c41:F41) (c145:F145) (l0:A46_0) (y):tevF (E46 c146 c41 c145 l0) Tryz.f46 i46 o46 y=m46 c146 c41 c145 l0 y:=by kernel_rfl
noncomputable def L46_0:A46_0:=n46_0 r146 r41 r145 fuel
noncomputable def r46:F46:=m46 r146 r41 r145 L46_0
theorem k46:KO (g46 r46):=by
  have hE: ∀g f,(E46 r146 r41 r145 L46_0).env.fns g=some f→CallOk Tryz.prog g f:=fnsL_ok ⟨k146,k41,k145,⟨⟩⟩
  have h0:LoopOk Tryz.prog Tryz.f46.ntmps (loopAt (bodyOf Tryz.f46) 0) (e46_0 L46_0):=lp_ok (E:=E46 r146 r41 r145 L46_0) rfl hE mixed (AllLoops.of_list (l:=[]) (by kernel_rfl) trivial) (n46_0 r146 r41 r145) (fun _ _ _=>rfl) (fun n x y z=>t46_0 r146 r41 r145 L46_0 _ x y z) rfl
  exact fn_ok (E:=E46 r146 r41 r145 L46_0) rfl hE mixed (by kernel_rfl) (by kernel_rfl) (AllLoops.of_list (l:=[(loopAt (bodyOf Tryz.f46) 0)]) (by kernel_rfl) (.one (by kernel_rfl) h0 trivial)) (s46 r146 r41 r145 L46_0)
abbrev i75:Ts:=[.a q6]
abbrev o75:Ts:=[.a q14]
abbrev F75:=FT i75 o75
abbrev g75:=mkG 75 i75 o75
noncomputable def m75 (c171:F171) (c46:F46) (c92:F92) (y:PTup i75):Option (PTup o75×BTup i75):=
  (c92 (y.1,())).bind fun r0=>
  bif (!r0.1.1)then (some ((([],([],([],((0:Int),((0:Int),((0:Int),((0:Int),((0:Int),(false,(false,(false,(false,((0:Int),((0:Int),((0:Int),((0:Int),((0:Int),(false,([],([],((0:Int),((0:Int),((0:Int),((0:Int),((0:Int),(false,(false,(false,((0:Int),(false,((0:Int),([],([],([],())))))))))))))))))))))))))))))))))),()),()))
  else (c171 ((y.1.1,()),(y.1.2.1,()))).bind fun r1=>
  (c46 (r1.1.1,(y.1.2.2.2.2.2.2.2.2.2.2.2.2.2.2.2.2.2.2.2.1,()))).bind fun r2=>
  some ((r2.1.1,()),())
theorem s75 (c171:F171) (c46:F46) (c92:F92) (y):TE [g171 c171,g46 c46,g92 c92] Tryz.f75 i75 o75 y=m75 c171 c46 c92 y:=by kernel_rfl
noncomputable def r75:F75:=m75 r171 r46 r92
theorem k75:KO (g75 r75):=fk (s75 r171 r46 r92) ⟨k171,k46,k92,⟨⟩⟩ (by kernel_rfl)
abbrev i94:Ts:=[.v (.sl false .i), .v (.sl false .i)]
abbrev o94:Ts:=[.v (.bool)]
abbrev F94:=FT i94 o94
abbrev g94:=mkG 94 i94 o94
abbrev lc94_0:Ts:=[.v (.sl false .i), .v (.sl false .i), .v (.int .i64)]
abbrev lb94_0:Ts:=[]
abbrev lv94_0:Ts:=[.v (.int .i64)]
abbrev lr94_0:Ts:=[.v (.bool)]
abbrev R94_0:=Option (Sum (PTup lv94_0) (PTup lr94_0)×BTup lb94_0)
abbrev B94_0:=PTup lb94_0→PTup lv94_0→R94_0
abbrev A94_0:=PTup lc94_0→B94_0
noncomputable def w94_0 (again:B94_0) (x:PTup lc94_0) (y:PTup lb94_0) (z:PTup lv94_0):R94_0:=
  bif (ltI z.1 x.2.2.1)then (bif (leI 0 z.1)then (bif (ltI z.1 (lenI x.1))then (bif (leI 0 z.1)then (bif (ltI z.1 (lenI x.2.1))then (bif (neI (rdE .i x.1 z.1) (rdE .i x.2.1 z.1))then (some ((Sum.inr (false,())),()))
       else again () ((wI (z.1+1)),()))
      else none)
     else none)
    else none)
   else none)
  else some ((Sum.inl z),())
noncomputable def e94_0 (l:A94_0):LoopE:=⟨[0,1,12],lc94_0,[],lb94_0,[13],lv94_0,[4],lr94_0,0,[],l⟩
noncomputable def m94 (l0:A94_0) (y:PTup i94):Option (PTup o94×BTup i94):=
  bif (neI (lenI y.1) (lenI y.2.1))then no
  else (l0 (y.1,(y.2.1,((lenI y.1),()))) () ((0:Int),())).bind fun r0=>
  sumElim r0.1 (fun r1=>some ((true,()),()))
  (fun r1=>some (r1,()))
noncomputable def E94 (l0:A94_0):CEnv:=⟨⟨Tryz.prog,fnsL []⟩,loopsL [(4,e94_0 l0)]⟩
theorem t94_0 (l0:A94_0) (again) (x y z):loopRound (E94 l0) (loopAt (bodyOf Tryz.f94) 0) (e94_0 l0) Tryz.f94.ntmps again x y z=w94_0 again x y z:=by kernel_rfl
noncomputable def n94_0:Nat→A94_0
  |0,_,_,_=>none
  |n+1,x,y,z=>w94_0 (fun y z=>n94_0 n x y z) x y z
theorem s94 (l0:A94_0) (y):tevF (E94 l0) Tryz.f94 i94 o94 y=m94 l0 y:=by kernel_rfl
noncomputable def L94_0:A94_0:=n94_0 fuel
noncomputable def r94:F94:=m94 L94_0
theorem k94:KO (g94 r94):=by
  have hE: ∀g f,(E94 L94_0).env.fns g=some f→CallOk Tryz.prog g f:=fnsL_ok trivial
  have h0:LoopOk Tryz.prog Tryz.f94.ntmps (loopAt (bodyOf Tryz.f94) 0) (e94_0 L94_0):=lp_ok (E:=E94 L94_0) rfl hE mixed (AllLoops.of_list (l:=[]) (by kernel_rfl) trivial) (n94_0) (fun _ _ _=>rfl) (fun n x y z=>t94_0 L94_0 _ x y z) rfl
  exact fn_ok (E:=E94 L94_0) rfl hE mixed (by kernel_rfl) (by kernel_rfl) (AllLoops.of_list (l:=[(loopAt (bodyOf Tryz.f94) 0)]) (by kernel_rfl) (.one (by kernel_rfl) h0 trivial)) (s94 L94_0)
abbrev i93:Ts:=[.a q1, .a q1]
abbrev o93:Ts:=[.v (.bool)]
abbrev F93:=FT i93 o93
abbrev g93:=mkG 93 i93 o93
noncomputable def m93 (c94:F94) (y:PTup i93):Option (PTup o93×BTup i93):=
  bif (eqI y.1.2.1 y.2.1.2.1)then ((c94 (y.1.1,(y.2.1.1,()))).bind fun r0=>
   some (r0.1,()))
  else no
theorem s93 (c94:F94) (y):TE [g94 c94] Tryz.f93 i93 o93 y=m93 c94 y:=by kernel_rfl
noncomputable def r93:F93:=m93 r94
theorem k93:KO (g93 r93):=fk (s93 r94) ⟨k94,⟨⟩⟩ (by kernel_rfl)
abbrev i18:Ts:=[.a q6]
abbrev o18:Ts:=[.v (.bool)]
abbrev F18:=FT i18 o18
abbrev g18:=mkG 18 i18 o18
noncomputable def m18 (c75:F75) (c92:F92) (c93:F93) (c94:F94) (y:PTup i18):Option (PTup o18×BTup i18):=
  (c92 (y.1,())).bind fun r0=>
  bif (!r0.1.1)then no
  else (c75 (y.1,())).bind fun r1=>
  bif ((eqI y.1.2.2.2.2.1 r1.1.1.2.2.2.2.1)&&((eqI y.1.2.2.2.2.2.1 r1.1.1.2.2.2.2.2.1)&&((eqI y.1.2.2.2.2.2.2.1 r1.1.1.2.2.2.2.2.2.1)&&((eqI y.1.2.2.2.2.2.2.2.1 r1.1.1.2.2.2.2.2.2.2.1)&&((y.1.2.2.2.2.2.2.2.2.1==r1.1.1.2.2.2.2.2.2.2.2.1)&&((y.1.2.2.2.2.2.2.2.2.2.1==r1.1.1.2.2.2.2.2.2.2.2.2.1)&&((y.1.2.2.2.2.2.2.2.2.2.2.1==r1.1.1.2.2.2.2.2.2.2.2.2.2.1)&&((y.1.2.2.2.2.2.2.2.2.2.2.2.1==r1.1.1.2.2.2.2.2.2.2.2.2.2.2.1)&&true))))))))then (bif ((y.1.2.2.2.2.2.2.2.2.2.2.2.2.1==r1.1.1.2.2.2.2.2.2.2.2.2.2.2.2.2.2.2.2.2.2.2.2.2.2.2.2.2.2.2.1)&&((eqI y.1.2.2.2.2.2.2.2.2.2.2.2.2.2.1 r1.1.1.2.2.2.2.2.2.2.2.2.2.2.2.2.2.2.2.2.2.2.2.2.2.2.2.2.2.2.2.1)&&true))then (bif (y.1.2.2.2.2.2.2.2.2.2.2.2.2.2.2.2.1==r1.1.1.2.2.2.2.2.2.2.2.2.2.2.2.2.2.2.2.2.2.2.2.2.2.2.2.2.2.2.2.2.1)then (bif (eqI y.1.2.2.2.2.2.2.2.2.2.2.2.2.2.2.1 r1.1.1.2.2.2.2.2.2.2.2.2.2.2.2.1)then ((c93 ((y.1.2.2.1,(y.1.2.2.2.1,())),((r1.1.1.2.2.1,(r1.1.1.2.2.2.1,())),()))).bind fun r2=>
      bif r2.1.1 then ((c94 (y.1.2.2.2.2.2.2.2.2.2.2.2.2.2.2.2.2.2.2.2.2.1,r1.1.1.2.2.2.2.2.2.2.2.2.2.2.2.2.2.2.2.2.2.2.2.2.2.2.2.2.2.2.2.2.2.2.2.2)).bind fun r3=>
       some (r3.1,()))
      else no)
     else no)
    else no)
   else no)
  else no
theorem s18 (c75:F75) (c92:F92) (c93:F93) (c94:F94) (y):TE [g75 c75,g92 c92,g93 c93,g94 c94] Tryz.f18 i18 o18 y=m18 c75 c92 c93 c94 y:=by kernel_rfl
noncomputable def r18:F18:=m18 r75 r92 r93 r94
theorem k18:KO (g18 r18):=fk (s18 r75 r92 r93 r94) ⟨k75,k92,k93,k94,⟨⟩⟩ (by kernel_rfl)
abbrev i96:Ts:=[.v (.sl false .i), .v (.sl false .i)]
abbrev o96:Ts:=[.v (.bool)]
abbrev F96:=FT i96 o96
abbrev g96:=mkG 96 i96 o96
abbrev lc96_0:Ts:=[.v (.sl false .i), .v (.sl false .i)]
abbrev lb96_0:Ts:=[]
abbrev lv96_0:Ts:=[.v (.int .i64)]
abbrev lr96_0:Ts:=[.v (.bool)]
abbrev R96_0:=Option (Sum (PTup lv96_0) (PTup lr96_0)×BTup lb96_0)
abbrev B96_0:=PTup lb96_0→PTup lv96_0→R96_0
abbrev A96_0:=PTup lc96_0→B96_0
noncomputable def w96_0 (again:B96_0) (x:PTup lc96_0) (y:PTup lb96_0) (z:PTup lv96_0):R96_0:=
  bif (ltI z.1 (lenI x.1))then (bif (leI 0 z.1)then (bif (ltI z.1 (lenI x.1))then (bif (leI 0 z.1)then (bif (ltI z.1 (lenI x.2.1))then (bif (neI (rdE .i x.1 z.1) (rdE .i x.2.1 z.1))then (some ((Sum.inr (false,())),()))
       else again () ((wI (z.1+1)),()))
      else none)
     else none)
    else none)
   else none)
  else some ((Sum.inl z),())
noncomputable def e96_0 (l:A96_0):LoopE:=⟨[0,1],lc96_0,[],lb96_0,[5],lv96_0,[4],lr96_0,0,[],l⟩
noncomputable def m96 (l0:A96_0) (y:PTup i96):Option (PTup o96×BTup i96):=
  bif (neI (lenI y.1) (lenI y.2.1))then no
  else (l0 y () ((0:Int),())).bind fun r0=>
  sumElim r0.1 (fun r1=>some ((true,()),()))
  (fun r1=>some (r1,()))
noncomputable def E96 (l0:A96_0):CEnv:=⟨⟨Tryz.prog,fnsL []⟩,loopsL [(4,e96_0 l0)]⟩
theorem t96_0 (l0:A96_0) (again) (x y z):loopRound (E96 l0) (loopAt (bodyOf Tryz.f96) 0) (e96_0 l0) Tryz.f96.ntmps again x y z=w96_0 again x y z:=by kernel_rfl
noncomputable def n96_0:Nat→A96_0
  |0,_,_,_=>none
  |n+1,x,y,z=>w96_0 (fun y z=>n96_0 n x y z) x y z
theorem s96 (l0:A96_0) (y):tevF (E96 l0) Tryz.f96 i96 o96 y=m96 l0 y:=by kernel_rfl
noncomputable def L96_0:A96_0:=n96_0 fuel
noncomputable def r96:F96:=m96 L96_0
theorem k96:KO (g96 r96):=by
  have hE: ∀g f,(E96 L96_0).env.fns g=some f→CallOk Tryz.prog g f:=fnsL_ok trivial
  have h0:LoopOk Tryz.prog Tryz.f96.ntmps (loopAt (bodyOf Tryz.f96) 0) (e96_0 L96_0):=lp_ok (E:=E96 L96_0) rfl hE mixed (AllLoops.of_list (l:=[]) (by kernel_rfl) trivial) (n96_0) (fun _ _ _=>rfl) (fun n x y z=>t96_0 L96_0 _ x y z) rfl
  exact fn_ok (E:=E96 L96_0) rfl hE mixed (by kernel_rfl) (by kernel_rfl) (AllLoops.of_list (l:=[(loopAt (bodyOf Tryz.f96) 0)]) (by kernel_rfl) (.one (by kernel_rfl) h0 trivial)) (s96 L96_0)
abbrev i181:Ts:=[.v (.sl false .n), .v (.sl false .n)]
abbrev o181:Ts:=[.v (.bool)]
abbrev F181:=FT i181 o181
abbrev g181:=mkG 181 i181 o181
abbrev lc181_0:Ts:=[.v (.sl false .n), .v (.sl false .n)]
abbrev lb181_0:Ts:=[]
abbrev lv181_0:Ts:=[.v (.int .i64)]
abbrev lr181_0:Ts:=[.v (.bool)]
abbrev R181_0:=Option (Sum (PTup lv181_0) (PTup lr181_0)×BTup lb181_0)
abbrev B181_0:=PTup lb181_0→PTup lv181_0→R181_0
abbrev A181_0:=PTup lc181_0→B181_0
noncomputable def w181_0 (c96:F96) (again:B181_0) (x:PTup lc181_0) (y:PTup lb181_0) (z:PTup lv181_0):R181_0:=
  bif (ltI z.1 (lenI x.1))then (bif (leI 0 z.1)then (bif (ltI z.1 (lenI x.1))then (bif (leI 0 z.1)then (bif (ltI z.1 (lenI x.2.1))then ((c96 ((rdE .n x.1 z.1),((rdE .n x.2.1 z.1),()))).bind fun r0=>
       bif (!r0.1.1)then (some ((Sum.inr (false,())),()))
       else again () ((wI (z.1+1)),()))
      else none)
     else none)
    else none)
   else none)
  else some ((Sum.inl z),())
noncomputable def e181_0 (l:A181_0):LoopE:=⟨[0,1],lc181_0,[],lb181_0,[5],lv181_0,[4],lr181_0,0,[],l⟩
noncomputable def m181 (c96:F96) (l0:A181_0) (y:PTup i181):Option (PTup o181×BTup i181):=
  bif (neI (lenI y.1) (lenI y.2.1))then no
  else (l0 y () ((0:Int),())).bind fun r0=>
  sumElim r0.1 (fun r1=>some ((true,()),()))
  (fun r1=>some (r1,()))
noncomputable def E181 (c96:F96) (l0:A181_0):CEnv:=⟨⟨Tryz.prog,fnsL [g96 c96]⟩,loopsL [(4,e181_0 l0)]⟩
theorem t181_0 (c96:F96) (l0:A181_0) (again) (x y z):loopRound (E181 c96 l0) (loopAt (bodyOf Tryz.f181) 0) (e181_0 l0) Tryz.f181.ntmps again x y z=w181_0 c96 again x y z:=by kernel_rfl
noncomputable def n181_0 (c96:F96):Nat→A181_0
  |0,_,_,_=>none
  |n+1,x,y,z=>w181_0 c96 (fun y z=>n181_0 c96 n x y z) x y z
theorem s181 (c96:F96) (l0:A181_0) (y):tevF (E181 c96 l0) Tryz.f181 i181 o181 y=m181 c96 l0 y:=by kernel_rfl
noncomputable def L181_0:A181_0:=n181_0 r96 fuel
noncomputable def r181:F181:=m181 r96 L181_0
theorem k181:KO (g181 r181):=by
  have hE: ∀g f,(E181 r96 L181_0).env.fns g=some f→CallOk Tryz.prog g f:=fnsL_ok ⟨k96,⟨⟩⟩
  have h0:LoopOk Tryz.prog Tryz.f181.ntmps (loopAt (bodyOf Tryz.f181) 0) (e181_0 L181_0):=lp_ok (E:=E181 r96 L181_0) rfl hE mixed (AllLoops.of_list (l:=[]) (by kernel_rfl) trivial) (n181_0 r96) (fun _ _ _=>rfl) (fun n x y z=>t181_0 r96 L181_0 _ x y z) rfl
  exact fn_ok (E:=E181 r96 L181_0) rfl hE mixed (by kernel_rfl) (by kernel_rfl) (AllLoops.of_list (l:=[(loopAt (bodyOf Tryz.f181) 0)]) (by kernel_rfl) (.one (by kernel_rfl) h0 trivial)) (s181 r96 L181_0)
abbrev i95:Ts:=[.a q0, .a q0]
abbrev o95:Ts:=[.v (.bool)]
abbrev F95:=FT i95 o95
abbrev g95:=mkG 95 i95 o95
noncomputable def m95 (c181:F181) (y:PTup i95):Option (PTup o95×BTup i95):=
  (c181 (y.1.1,y.2.1)).bind fun r0=>
  bif (!r0.1.1)then no
  else some ((true,()),())
theorem s95 (c181:F181) (y):TE [g181 c181] Tryz.f95 i95 o95 y=m95 c181 y:=by kernel_rfl
noncomputable def r95:F95:=m95 r181
theorem k95:KO (g95 r95):=fk (s95 r181) ⟨k181,⟨⟩⟩ (by kernel_rfl)
abbrev i97:Ts:=[.a q1, .a q1]
abbrev o97:Ts:=[.v (.bool)]
abbrev F97:=FT i97 o97
abbrev g97:=mkG 97 i97 o97
noncomputable def m97 (c96:F96) (y:PTup i97):Option (PTup o97×BTup i97):=
  (c96 (y.1.1,(y.2.1.1,()))).bind fun r0=>
  bif (!r0.1.1)then no
  else bif (neI y.1.2.1 y.2.1.2.1)then no
  else some ((true,()),())
theorem s97 (c96:F96) (y):TE [g96 c96] Tryz.f97 i97 o97 y=m97 c96 y:=by kernel_rfl
noncomputable def r97:F97:=m97 r96
theorem k97:KO (g97 r97):=fk (s97 r96) ⟨k96,⟨⟩⟩ (by kernel_rfl)
abbrev i98:Ts:=[.a q8, .a q8]
abbrev o98:Ts:=[.v (.bool)]
abbrev F98:=FT i98 o98
abbrev g98:=mkG 98 i98 o98
noncomputable def m98 (y:PTup i98):Option (PTup o98×BTup i98):=
  bif (neI y.1.1 y.2.1.1)then no
  else bif (neI y.1.2.1 y.2.1.2.1)then no
  else bif (neI y.1.2.2.1 y.2.1.2.2.1)then no
  else bif (neI y.1.2.2.2.1 y.2.1.2.2.2.1)then no
  else bif (!(y.1.2.2.2.2.1==y.2.1.2.2.2.2.1))then no
  else bif (!(y.1.2.2.2.2.2.1==y.2.1.2.2.2.2.2.1))then no
  else bif (!(y.1.2.2.2.2.2.2.1==y.2.1.2.2.2.2.2.2.1))then no
  else bif (!(y.1.2.2.2.2.2.2.2.1==y.2.1.2.2.2.2.2.2.2.1))then no
  else some ((true,()),())
theorem s98 (y):TE [] Tryz.f98 i98 o98 y=m98 y:=by kernel_rfl
noncomputable def r98:F98:=m98
theorem k98:KO (g98 r98):=fk (s98) trivial (by kernel_rfl)
abbrev i99:Ts:=[.a q9, .a q9]
abbrev o99:Ts:=[.v (.bool)]
abbrev F99:=FT i99 o99
abbrev g99:=mkG 99 i99 o99
noncomputable def m99 (y:PTup i99):Option (PTup o99×BTup i99):=
  bif (!(y.1.1==y.2.1.1))then no
  else bif (neI y.1.2.1 y.2.1.2.1)then no
  else some ((true,()),())
theorem s99 (y):TE [] Tryz.f99 i99 o99 y=m99 y:=by kernel_rfl
noncomputable def r99:F99:=m99
theorem k99:KO (g99 r99):=fk (s99) trivial (by kernel_rfl)
abbrev i182:Ts:=[.a q2, .a q2]
abbrev o182:Ts:=[.v (.bool)]
abbrev F182:=FT i182 o182
abbrev g182:=mkG 182 i182 o182
noncomputable def m182 (c96:F96) (y:PTup i182):Option (PTup o182×BTup i182):=
  bif (neI y.1.1 y.2.1.1)then no
  else bif (neI y.1.2.1 y.2.1.2.1)then no
  else bif (neI y.1.2.2.1 y.2.1.2.2.1)then no
  else bif (neI y.1.2.2.2.1 y.2.1.2.2.2.1)then no
  else bif (neI y.1.2.2.2.2.1 y.2.1.2.2.2.2.1)then no
  else bif (!(y.1.2.2.2.2.2.1==y.2.1.2.2.2.2.2.1))then no
  else (c96 (y.1.2.2.2.2.2.2.1,(y.2.1.2.2.2.2.2.2.1,()))).bind fun r0=>
  bif (!r0.1.1)then no
  else (c96 (y.1.2.2.2.2.2.2.2.1,y.2.1.2.2.2.2.2.2.2)).bind fun r1=>
  bif (!r1.1.1)then no
  else some ((true,()),())
theorem s182 (c96:F96) (y):TE [g96 c96] Tryz.f182 i182 o182 y=m182 c96 y:=by kernel_rfl
noncomputable def r182:F182:=m182 r96
theorem k182:KO (g182 r182):=fk (s182 r96) ⟨k96,⟨⟩⟩ (by kernel_rfl)
abbrev i303:Ts:=[.a q11, .a q11]
abbrev o303:Ts:=[.v (.bool)]
abbrev F303:=FT i303 o303
abbrev g303:=mkG 303 i303 o303
noncomputable def m303 (y:PTup i303):Option (PTup o303×BTup i303):=
  bif (neI y.1.1 y.2.1.1)then no
  else bif (neI y.1.2.1 y.2.1.2.1)then no
  else bif (neI y.1.2.2.1 y.2.1.2.2.1)then no
  else some ((true,()),())
theorem s303 (y):TE [] Tryz.f303 i303 o303 y=m303 y:=by kernel_rfl
noncomputable def r303:F303:=m303
theorem k303:KO (g303 r303):=fk (s303) trivial (by kernel_rfl)
abbrev i255:Ts:=[.v (.sl false .t), .v (.sl false .t)]
abbrev o255:Ts:=[.v (.bool)]
abbrev F255:=FT i255 o255
abbrev g255:=mkG 255 i255 o255
abbrev lc255_0:Ts:=[.v (.sl false .t), .v (.sl false .t)]
abbrev lb255_0:Ts:=[]
abbrev lv255_0:Ts:=[.v (.int .i64)]
abbrev lr255_0:Ts:=[.v (.bool)]
abbrev R255_0:=Option (Sum (PTup lv255_0) (PTup lr255_0)×BTup lb255_0)
abbrev B255_0:=PTup lb255_0→PTup lv255_0→R255_0
abbrev A255_0:=PTup lc255_0→B255_0
noncomputable def w255_0 (c303:F303) (again:B255_0) (x:PTup lc255_0) (y:PTup lb255_0) (z:PTup lv255_0):R255_0:=
  bif (ltI z.1 (lenI x.1))then (bif (leI 0 z.1)then (bif (ltI z.1 (lenI x.1))then (bif (leI 0 z.1)then (bif (ltI z.1 (lenI x.2.1))then ((c303 (((rdE .t x.1 z.1).1,((rdE .t x.1 z.1).2.1,((rdE .t x.1 z.1).2.2,()))),(((rdE .t x.2.1 z.1).1,((rdE .t x.2.1 z.1).2.1,((rdE .t x.2.1 z.1).2.2,()))),()))).bind fun r0=>
       bif (!r0.1.1)then (some ((Sum.inr (false,())),()))
       else again () ((wI (z.1+1)),()))
      else none)
     else none)
    else none)
   else none)
  else some ((Sum.inl z),())
noncomputable def e255_0 (l:A255_0):LoopE:=⟨[0,1],lc255_0,[],lb255_0,[5],lv255_0,[4],lr255_0,0,[],l⟩
noncomputable def m255 (c303:F303) (l0:A255_0) (y:PTup i255):Option (PTup o255×BTup i255):=
  bif (neI (lenI y.1) (lenI y.2.1))then no
  else (l0 y () ((0:Int),())).bind fun r0=>
  sumElim r0.1 (fun r1=>some ((true,()),()))
  (fun r1=>some (r1,()))
noncomputable def E255 (c303:F303) (l0:A255_0):CEnv:=⟨⟨Tryz.prog,fnsL [g303 c303]⟩,loopsL [(4,e255_0 l0)]⟩
theorem t255_0 (c303:F303) (l0:A255_0) (again) (x y z):loopRound (E255 c303 l0) (loopAt (bodyOf Tryz.f255) 0) (e255_0 l0) Tryz.f255.ntmps again x y z=w255_0 c303 again x y z:=by kernel_rfl
noncomputable def n255_0 (c303:F303):Nat→A255_0
  |0,_,_,_=>none
  |n+1,x,y,z=>w255_0 c303 (fun y z=>n255_0 c303 n x y z) x y z
theorem s255 (c303:F303) (l0:A255_0) (y):tevF (E255 c303 l0) Tryz.f255 i255 o255 y=m255 c303 l0 y:=by kernel_rfl
noncomputable def L255_0:A255_0:=n255_0 r303 fuel
noncomputable def r255:F255:=m255 r303 L255_0
theorem k255:KO (g255 r255):=by
  have hE: ∀g f,(E255 r303 L255_0).env.fns g=some f→CallOk Tryz.prog g f:=fnsL_ok ⟨k303,⟨⟩⟩
  have h0:LoopOk Tryz.prog Tryz.f255.ntmps (loopAt (bodyOf Tryz.f255) 0) (e255_0 L255_0):=lp_ok (E:=E255 r303 L255_0) rfl hE mixed (AllLoops.of_list (l:=[]) (by kernel_rfl) trivial) (n255_0 r303) (fun _ _ _=>rfl) (fun n x y z=>t255_0 r303 L255_0 _ x y z) rfl
  exact fn_ok (E:=E255 r303 L255_0) rfl hE mixed (by kernel_rfl) (by kernel_rfl) (AllLoops.of_list (l:=[(loopAt (bodyOf Tryz.f255) 0)]) (by kernel_rfl) (.one (by kernel_rfl) h0 trivial)) (s255 r303 L255_0)
abbrev i183:Ts:=[.a q3, .a q3]
abbrev o183:Ts:=[.v (.bool)]
abbrev F183:=FT i183 o183
abbrev g183:=mkG 183 i183 o183
noncomputable def m183 (c255:F255) (y:PTup i183):Option (PTup o183×BTup i183):=
  bif (neI y.1.1 y.2.1.1)then no
  else (c255 (y.1.2.1,y.2.1.2)).bind fun r0=>
  bif (!r0.1.1)then no
  else some ((true,()),())
theorem s183 (c255:F255) (y):TE [g255 c255] Tryz.f183 i183 o183 y=m183 c255 y:=by kernel_rfl
noncomputable def r183:F183:=m183 r255
theorem k183:KO (g183 r183):=fk (s183 r255) ⟨k255,⟨⟩⟩ (by kernel_rfl)
abbrev i100:Ts:=[.a q4, .a q4]
abbrev o100:Ts:=[.v (.bool)]
abbrev F100:=FT i100 o100
abbrev g100:=mkG 100 i100 o100
noncomputable def m100 (c181:F181) (c182:F182) (c183:F183) (y:PTup i100):Option (PTup o100×BTup i100):=
  (c182 ((y.1.1,(y.1.2.1,(y.1.2.2.1,(y.1.2.2.2.1,(y.1.2.2.2.2.1,(y.1.2.2.2.2.2.1,(y.1.2.2.2.2.2.2.1,(y.1.2.2.2.2.2.2.2.1,())))))))),((y.2.1.1,(y.2.1.2.1,(y.2.1.2.2.1,(y.2.1.2.2.2.1,(y.2.1.2.2.2.2.1,(y.2.1.2.2.2.2.2.1,(y.2.1.2.2.2.2.2.2.1,(y.2.1.2.2.2.2.2.2.2.1,())))))))),()))).bind fun r0=>
  bif (!r0.1.1)then no
  else (c183 ((y.1.2.2.2.2.2.2.2.2.1,(y.1.2.2.2.2.2.2.2.2.2.1,())),((y.2.1.2.2.2.2.2.2.2.2.1,(y.2.1.2.2.2.2.2.2.2.2.2.1,())),()))).bind fun r1=>
  bif (!r1.1.1)then no
  else (c181 (y.1.2.2.2.2.2.2.2.2.2.2.1,y.2.1.2.2.2.2.2.2.2.2.2.2)).bind fun r2=>
  bif (!r2.1.1)then no
  else some ((true,()),())
theorem s100 (c181:F181) (c182:F182) (c183:F183) (y):TE [g181 c181,g182 c182,g183 c183] Tryz.f100 i100 o100 y=m100 c181 c182 c183 y:=by kernel_rfl
noncomputable def r100:F100:=m100 r181 r182 r183
theorem k100:KO (g100 r100):=fk (s100 r181 r182 r183) ⟨k181,k182,k183,⟨⟩⟩ (by kernel_rfl)
abbrev i184:Ts:=[.a q12, .a q12]
abbrev o184:Ts:=[.v (.bool)]
abbrev F184:=FT i184 o184
abbrev g184:=mkG 184 i184 o184
noncomputable def m184 (y:PTup i184):Option (PTup o184×BTup i184):=
  bif (neI y.1.1 y.2.1.1)then no
  else bif (neI y.1.2.1 y.2.1.2.1)then no
  else bif (neI y.1.2.2.1 y.2.1.2.2.1)then no
  else bif (neI y.1.2.2.2.1 y.2.1.2.2.2.1)then no
  else bif (neI y.1.2.2.2.2.1 y.2.1.2.2.2.2.1)then no
  else bif (!(y.1.2.2.2.2.2.1==y.2.1.2.2.2.2.2.1))then no
  else bif (!(y.1.2.2.2.2.2.2.1==y.2.1.2.2.2.2.2.2.1))then no
  else some ((true,()),())
theorem s184 (y):TE [] Tryz.f184 i184 o184 y=m184 y:=by kernel_rfl
noncomputable def r184:F184:=m184
theorem k184:KO (g184 r184):=fk (s184) trivial (by kernel_rfl)
abbrev i101:Ts:=[.a q5, .a q5]
abbrev o101:Ts:=[.v (.bool)]
abbrev F101:=FT i101 o101
abbrev g101:=mkG 101 i101 o101
noncomputable def m101 (c184:F184) (c96:F96) (c183:F183) (y:PTup i101):Option (PTup o101×BTup i101):=
  (c184 ((y.1.1,(y.1.2.1,(y.1.2.2.1,(y.1.2.2.2.1,(y.1.2.2.2.2.1,(y.1.2.2.2.2.2.1,(y.1.2.2.2.2.2.2.1,()))))))),((y.2.1.1,(y.2.1.2.1,(y.2.1.2.2.1,(y.2.1.2.2.2.1,(y.2.1.2.2.2.2.1,(y.2.1.2.2.2.2.2.1,(y.2.1.2.2.2.2.2.2.1,()))))))),()))).bind fun r0=>
  bif (!r0.1.1)then no
  else (c183 ((y.1.2.2.2.2.2.2.2.1,(y.1.2.2.2.2.2.2.2.2.1,())),((y.2.1.2.2.2.2.2.2.2.1,(y.2.1.2.2.2.2.2.2.2.2.1,())),()))).bind fun r1=>
  bif (!r1.1.1)then no
  else (c96 (y.1.2.2.2.2.2.2.2.2.2.1,y.2.1.2.2.2.2.2.2.2.2.2)).bind fun r2=>
  bif (!r2.1.1)then no
  else some ((true,()),())
theorem s101 (c184:F184) (c96:F96) (c183:F183) (y):TE [g184 c184,g96 c96,g183 c183] Tryz.f101 i101 o101 y=m101 c184 c96 c183 y:=by kernel_rfl
noncomputable def r101:F101:=m101 r184 r96 r183
theorem k101:KO (g101 r101):=fk (s101 r184 r96 r183) ⟨k184,k96,k183,⟨⟩⟩ (by kernel_rfl)
abbrev i19:Ts:=[.a q6, .a q6]
abbrev o19:Ts:=[.v (.bool)]
abbrev F19:=FT i19 o19
abbrev g19:=mkG 19 i19 o19
noncomputable def m19 (c98:F98) (c95:F95) (c96:F96) (c97:F97) (c99:F99) (c100:F100) (c101:F101) (y:PTup i19):Option (PTup o19×BTup i19):=
  let a0:=y.1;let a1:=y.2;let a2:=a0.2;let a3:=a1.1;let a4:=a2.2;let a5:=a3.2;let a6:=a4.2;let a7:=a5.2;let a8:=a6.2;let a9:=a7.2;let a10:=a8.2;let a11:=a9.2;let a12:=a10.2;let a13:=a11.2;let a14:=a12.2;let a15:=a13.2;let a16:=a14.2;let a17:=a15.2;let a18:=a16.2;let a19:=a17.2;let a20:=a18.2;let a21:=a19.2;let a22:=a20.2;let a23:=a21.2;let a24:=a22.2;let a25:=a23.2;let a26:=a24.2;let a27:=a25.2;let a28:=a26.2;let a29:=a27.2;let a30:=a28.2;let a31:=a29.2;let a32:=a30.2;let a33:=a31.2;let a34:=a32.2;let a35:=a33.2;let a36:=a34.2;let a37:=a35.2;let a38:=a36.2;let a39:=a37.2;let a40:=a38.2;let a41:=a39.2;let a42:=a40.2;let a43:=a41.2;let a44:=a42.2;let a45:=a43.2;let a46:=a44.2;let a47:=a45.2;let a48:=a47.2;let a49:=a46.2.2;let a50:=a48.2.2;let a51:=a49.2.2;let a52:=a50.2.2;(c95 ((a0.1,()),((a3.1,()),()))).bind fun r0=>
  bif (!r0.1.1)then no
  else (c96 (a2.1,(a5.1,()))).bind fun r1=>
  bif (!r1.1.1)then no
  else (c97 ((a4.1,(a6.1,())),((a7.1,(a9.1,())),()))).bind fun r2=>
  bif (!r2.1.1)then no
  else (c98 ((a8.1,(a10.1,(a12.1,(a14.1,(a16.1,(a18.1,(a20.1,(a22.1,())))))))),((a11.1,(a13.1,(a15.1,(a17.1,(a19.1,(a21.1,(a23.1,(a25.1,())))))))),()))).bind fun r3=>
  bif (!r3.1.1)then no
  else (c99 ((a24.1,(a26.1,())),((a27.1,(a29.1,())),()))).bind fun r4=>
  bif (!r4.1.1)then no
  else bif (neI a28.1 a31.1)then no
  else bif (!(a30.1==a33.1))then no
  else bif (neI a32.1 a35.1)then no
  else bif (!(a34.1==a37.1))then no
  else bif (neI a36.1 a39.1)then no
  else bif (neI a38.1 a41.1)then no
  else (c96 (a40.1,(a43.1,()))).bind fun r5=>
  bif (!r5.1.1)then no
  else (c100 ((a42.1,(a44.1,(a46.1,(a46.2.1,(a49.1,(a49.2.1,(a51.1,(a51.2.1,(a51.2.2.1,(a51.2.2.2.1,(a51.2.2.2.2.1,()))))))))))),((a45.1,(a47.1,(a48.1,(a48.2.1,(a50.1,(a50.2.1,(a52.1,(a52.2.1,(a52.2.2.1,(a52.2.2.2.1,(a52.2.2.2.2.1,()))))))))))),()))).bind fun r6=>
  bif (!r6.1.1)then no
  else (c101 (a51.2.2.2.2.2,(a52.2.2.2.2.2,()))).bind fun r7=>
  bif (!r7.1.1)then no
  else some ((true,()),())
theorem s19 (c98:F98) (c95:F95) (c96:F96) (c97:F97) (c99:F99) (c100:F100) (c101:F101) (y):TE [g98 c98,g95 c95,g96 c96,g97 c97,g99 c99,g100 c100,g101 c101] Tryz.f19 i19 o19 y=m19 c98 c95 c96 c97 c99 c100 c101 y:=by kernel_rfl
noncomputable def r19:F19:=m19 r98 r95 r96 r97 r99 r100 r101
theorem k19:KO (g19 r19):=fk (s19 r98 r95 r96 r97 r99 r100 r101) ⟨k98,k95,k96,k97,k99,k100,k101,⟨⟩⟩ (by kernel_rfl)
abbrev i3:Ts:=[.a q6]
abbrev o3:Ts:=[.v (.bool)]
abbrev F3:=FT i3 o3
abbrev g3:=mkG 3 i3 o3
noncomputable def m3 (c18:F18) (c19:F19) (c15:F15) (c17:F17) (c16:F16) (y:PTup i3):Option (PTup o3×BTup i3):=
  (c15 (y.1,((1048576:Int),()))).bind fun r0=>
  bif (ltI r0.1.1 0)then (some ((true,()),()))
  else (c17 (y.1,())).bind fun r1=>
  (c16 (r1.1.1,())).bind fun r2=>
  (c17 (y.1,())).bind fun r3=>
  (c18 (r3.1.1,())).bind fun r4=>
  bif (!(r4.1.1==r2.1.1))then no
  else (c17 (y.1,())).bind fun r5=>
  (c19 (r3.1.1,(r5.1.1,()))).bind fun r6=>
  bif (!r6.1.1)then no
  else some ((true,()),())
theorem s3 (c18:F18) (c19:F19) (c15:F15) (c17:F17) (c16:F16) (y):TE [g18 c18,g19 c19,g15 c15,g17 c17,g16 c16] Tryz.f3 i3 o3 y=m3 c18 c19 c15 c17 c16 y:=by kernel_rfl
noncomputable def r3:F3:=m3 r18 r19 r15 r17 r16
theorem k3:KO (g3 r3):=fk (s3 r18 r19 r15 r17 r16) ⟨k18,k19,k15,k17,k16,⟨⟩⟩ (by kernel_rfl)
end Go.Proofs.YtgeodknaigdenaaGreat.Plain
