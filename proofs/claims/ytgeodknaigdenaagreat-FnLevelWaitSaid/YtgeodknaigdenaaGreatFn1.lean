/- Plain functions that the program's functions answer as; their contracts. Printed by a program of the proofs' writer. No condition. -/
import Derived.Test.YtgeodknaigdenaaGreatW5
import Derived.KernelRfl
import Derived.Test.YtgeodknaigdenaaGreatFn0
set_option linter.unusedVariables false
set_option linter.unusedSimpArgs false
set_option maxRecDepth 100000
namespace Go.Proofs.YtgeodknaigdenaaGreat.Plain
open Go Go.Tev
abbrev i265:Ts:=[.v (.int .i64)]
abbrev o265:Ts:=[.v (.int .i64)]
abbrev F265:=FT i265 o265
abbrev g265:=mkG 265 i265 o265
noncomputable def m265 (y:PTup i265):Option (PTup o265×BTup i265):=
  some (((bAnd Go.IntKind.i64 y.1 (65535:Int)),()),())
theorem s265 (y):TE [] Tryz.f265 i265 o265 y=m265 y:=by kernel_rfl
noncomputable def r265:F265:=m265
theorem k265:KO (g265 r265):=fk (s265) trivial (by kernel_rfl)
abbrev i206:Ts:=[.v (.int .i64)]
abbrev o206:Ts:=[.v (.int .i64), .v (.int .i64)]
abbrev F206:=FT i206 o206
abbrev g206:=mkG 206 i206 o206
noncomputable def m206 (c265:F265) (y:PTup i206):Option (PTup o206×BTup i206):=
  (c265 y).bind fun r0=>
  bif (ltI r0.1.1 8192)then (some (((1:Int),((Int.tmod r0.1.1 512),())),()))
  else bif (ltI r0.1.1 16384)then (some (((2:Int),((Int.tmod r0.1.1 8),())),()))
  else bif (ltI r0.1.1 16388)then (some (((3:Int),((Int.tmod r0.1.1 4),())),()))
  else bif (eqI r0.1.1 16406)then (some (((4:Int),((0:Int),())),()))
  else bif (ltI r0.1.1 32768)then (some (((7:Int),((0:Int),())),()))
  else bif (ltI r0.1.1 49152)then (some (((5:Int),((Int.tmod r0.1.1 256),())),()))
  else some (((6:Int),((Int.tmod r0.1.1 256),())),())
theorem s206 (c265:F265) (y):TE [g265 c265] Tryz.f206 i206 o206 y=m206 c265 y:=by kernel_rfl
noncomputable def r206:F206:=m206 r265
theorem k206:KO (g206 r206):=fk (s206 r265) ⟨k265,⟨⟩⟩ (by kernel_rfl)
abbrev i225:Ts:=[.a q0, .a q1, .v (.int .i64)]
abbrev o225:Ts:=[.v (.int .i64)]
abbrev F225:=FT i225 o225
abbrev g225:=mkG 225 i225 o225
noncomputable def m225 (c206:F206) (y:PTup i225):Option (PTup o225×BTup i225):=
  (c206 y.2.2).bind fun r0=>
  bif (eqI r0.1.1 1)then (bif (leI 0 r0.1.2.1)then (bif (ltI r0.1.2.1 (lenI y.2.1.1))then (some (((rdE .i y.2.1.1 r0.1.2.1),()),()))
    else none)
   else none)
  else bif (eqI r0.1.1 5)then (bif (leI 0 y.2.1.2.1)then (bif (ltI y.2.1.2.1 (lenI y.1.1))then (bif (leI 0 r0.1.2.1)then (bif (ltI r0.1.2.1 (lenI (rdE .n y.1.1 y.2.1.2.1)))then (some (((rdI (rdE .n y.1.1 y.2.1.2.1) r0.1.2.1),()),()))
      else none)
     else none)
    else none)
   else none)
  else bif (eqI r0.1.1 6)then (bif (leI 0 (wI ((lenI y.1.1)-1)))then (bif (ltI (wI ((lenI y.1.1)-1)) (lenI y.1.1))then (bif (leI 0 r0.1.2.1)then (bif (ltI r0.1.2.1 (lenI (rdE .n y.1.1 (wI ((lenI y.1.1)-1)))))then (some (((rdI (rdE .n y.1.1 (wI ((lenI y.1.1)-1))) r0.1.2.1),()),()))
      else none)
     else none)
    else none)
   else none)
  else some (((0:Int),()),())
theorem s225 (c206:F206) (y):TE [g206 c206] Tryz.f225 i225 o225 y=m225 c206 y:=by kernel_rfl
noncomputable def r225:F225:=m225 r206
theorem k225:KO (g225 r225):=fk (s225 r206) ⟨k206,⟨⟩⟩ (by kernel_rfl)
abbrev i266:Ts:=[.v (.int .i64)]
abbrev o266:Ts:=[.v (.int .i64)]
abbrev F266:=FT i266 o266
abbrev g266:=mkG 266 i266 o266
noncomputable def m266 (y:PTup i266):Option (PTup o266×BTup i266):=
  some (((bAnd Go.IntKind.i64 y.1 (255:Int)),()),())
theorem s266 (y):TE [] Tryz.f266 i266 o266 y=m266 y:=by kernel_rfl
noncomputable def r266:F266:=m266
theorem k266:KO (g266 r266):=fk (s266) trivial (by kernel_rfl)
abbrev i227:Ts:=[.v (.int .i64), .v (.int .i64)]
abbrev o227:Ts:=[.v (.int .i64)]
abbrev F227:=FT i227 o227
abbrev g227:=mkG 227 i227 o227
noncomputable def m227 (c266:F266) (y:PTup i227):Option (PTup o227×BTup i227):=
  (c266 (y.1,())).bind fun r0=>
  (c266 y.2).bind fun r1=>
  some (((wI (r0.1.1+(wI ((256:Int)*r1.1.1)))),()),())
theorem s227 (c266:F266) (y):TE [g266 c266] Tryz.f227 i227 o227 y=m227 c266 y:=by kernel_rfl
noncomputable def r227:F227:=m227 r266
theorem k227:KO (g227 r227):=fk (s227 r266) ⟨k266,⟨⟩⟩ (by kernel_rfl)
abbrev i226:Ts:=[.v (.int .i64)]
abbrev o226:Ts:=[.v (.int .i64)]
abbrev F226:=FT i226 o226
abbrev g226:=mkG 226 i226 o226
noncomputable def m226 (c140:F140) (y:PTup i226):Option (PTup o226×BTup i226):=
  bif (eqI y.1 1)then (some (((2:Int),()),()))
  else (c140 (y.1,((4:Int),((9:Int),())))).bind fun r0=>
  bif r0.1.1 then (some (((2:Int),()),()))
  else bif (eqI y.1 2)then (some (((3:Int),()),()))
  else bif (eqI y.1 3)then (some (((3:Int),()),()))
  else (c140 (y.1,((14:Int),((20:Int),())))).bind fun r1=>
  bif r1.1.1 then (some (((3:Int),()),()))
  else bif (eqI y.1 29)then (some (((3:Int),()),()))
  else some (((1:Int),()),())
theorem s226 (c140:F140) (y):TE [g140 c140] Tryz.f226 i226 o226 y=m226 c140 y:=by kernel_rfl
noncomputable def r226:F226:=m226 r140
theorem k226:KO (g226 r226):=fk (s226 r140) ⟨k140,⟨⟩⟩ (by kernel_rfl)
abbrev i156:Ts:=[.a q0, .a q1, .v (.int .i64)]
abbrev o156:Ts:=[.a q11]
abbrev F156:=FT i156 o156
abbrev g156:=mkG 156 i156 o156
noncomputable def m156 (c227:F227) (c226:F226) (c225:F225) (y:PTup i156):Option (PTup o156×BTup i156):=
  (c225 y).bind fun r0=>
  (c226 r0.1).bind fun r1=>
  bif (eqI r1.1.1 2)then ((c225 (y.1,(y.2.1,((wI (y.2.2.1+1)),())))).bind fun r2=>
   some (((r0.1.1,r2.1),()),()))
  else bif (eqI r1.1.1 3)then ((c225 (y.1,(y.2.1,((wI (y.2.2.1+1)),())))).bind fun r2=>
   (c225 (y.1,(y.2.1,((wI (y.2.2.1+2)),())))).bind fun r3=>
   (c227 (r2.1.1,r3.1)).bind fun r4=>
   some (((r0.1.1,r4.1),()),()))
  else some (((r0.1.1,((0:Int),())),()),())
theorem s156 (c227:F227) (c226:F226) (c225:F225) (y):TE [g227 c227,g226 c226,g225 c225] Tryz.f156 i156 o156 y=m156 c227 c226 c225 y:=by kernel_rfl
noncomputable def r156:F156:=m156 r227 r226 r225
theorem k156:KO (g156 r156):=fk (s156 r227 r226 r225) ⟨k227,k226,k225,⟨⟩⟩ (by kernel_rfl)
abbrev i43:Ts:=[.v (.int .i64)]
abbrev o43:Ts:=[.v (.int .i64)]
abbrev R43:=Option (PTup o43×BTup i43)
abbrev F43:=PTup i43→R43
abbrev g43:=mkG 43 i43 o43
noncomputable def m43 (y:PTup i43):R43:=
  let X0:R43:=bif (eqI y.1 15)then (some (((5:Int),()),()))else bif (eqI y.1 16)then (bif (eqI y.1 16)then (some (((3:Int),()),()))else bif (eqI y.1 20)then (bif (eqI y.1 20)then (some (((6:Int),()),()))else some (((2:Int),()),()))else bif (eqI y.1 21)then (bif (eqI y.1 21)then (some (((6:Int),()),()))else some (((2:Int),()),()))else bif (eqI y.1 24)then (some (((6:Int),()),()))else some (((2:Int),()),()))else bif (eqI y.1 17)then (bif (eqI y.1 17)then (some (((3:Int),()),()))else bif (eqI y.1 20)then (bif (eqI y.1 20)then (some (((6:Int),()),()))else some (((2:Int),()),()))else bif (eqI y.1 21)then (bif (eqI y.1 21)then (some (((6:Int),()),()))else some (((2:Int),()),()))else bif (eqI y.1 24)then (some (((6:Int),()),()))else some (((2:Int),()),()))else bif (eqI y.1 18)then (bif (eqI y.1 18)then (some (((3:Int),()),()))else bif (eqI y.1 20)then (bif (eqI y.1 20)then (some (((6:Int),()),()))else some (((2:Int),()),()))else bif (eqI y.1 21)then (bif (eqI y.1 21)then (some (((6:Int),()),()))else some (((2:Int),()),()))else bif (eqI y.1 24)then (some (((6:Int),()),()))else some (((2:Int),()),()))else bif (eqI y.1 19)then (bif (eqI y.1 19)then (some (((3:Int),()),()))else bif (eqI y.1 20)then (bif (eqI y.1 20)then (some (((6:Int),()),()))else some (((2:Int),()),()))else bif (eqI y.1 21)then (bif (eqI y.1 21)then (some (((6:Int),()),()))else some (((2:Int),()),()))else bif (eqI y.1 24)then (some (((6:Int),()),()))else some (((2:Int),()),()))else bif (eqI y.1 22)then (some (((3:Int),()),()))else bif (eqI y.1 20)then (bif (eqI y.1 20)then (some (((6:Int),()),()))else some (((2:Int),()),()))else bif (eqI y.1 21)then (bif (eqI y.1 21)then (some (((6:Int),()),()))else some (((2:Int),()),()))else bif (eqI y.1 24)then (some (((6:Int),()),()))else some (((2:Int),()),());bif (eqI y.1 2)then (bif (eqI y.1 2)then (some (((4:Int),()),()))else X0)else bif (eqI y.1 3)then (bif (eqI y.1 3)then (some (((4:Int),()),()))else X0)else bif (eqI y.1 14)then (bif (eqI y.1 14)then (some (((4:Int),()),()))else X0)else bif (eqI y.1 23)then (bif (eqI y.1 23)then (some (((4:Int),()),()))else X0)else bif (eqI y.1 29)then (some (((4:Int),()),()))else X0
theorem s43 (y):TE [] Tryz.f43 i43 o43 y=m43 y:=by kernel_rfl
noncomputable def r43:F43:=m43
theorem k43:KO (g43 r43):=fk (s43) trivial (by kernel_rfl)
abbrev i264:Ts:=[.v (.int .i64)]
abbrev o264:Ts:=[.v (.int .i64)]
abbrev R264:=Option (PTup o264×BTup i264)
abbrev F264:=PTup i264→R264
abbrev g264:=mkG 264 i264 o264
noncomputable def m264 (y:PTup i264):R264:=
  let X0:R264:=bif (eqI y.1 3)then (bif (eqI y.1 3)then (some (((2:Int),()),()))else some (((0:Int),()),()))else bif (eqI y.1 15)then (some (((2:Int),()),()))else some (((0:Int),()),());bif (eqI y.1 2)then (bif (eqI y.1 2)then (some (((1:Int),()),()))else X0)else bif (eqI y.1 14)then (bif (eqI y.1 14)then (some (((1:Int),()),()))else X0)else bif (eqI y.1 29)then (some (((1:Int),()),()))else X0
theorem s264 (y):TE [] Tryz.f264 i264 o264 y=m264 y:=by kernel_rfl
noncomputable def r264:F264:=m264
theorem k264:KO (g264 r264):=fk (s264) trivial (by kernel_rfl)
abbrev i205:Ts:=[.a q11, .a q2]
abbrev o205:Ts:=[.v (.int .i64), .v (.int .i64), .v (.int .i64)]
abbrev R205:=Option (PTup o205×BTup i205)
abbrev F205:=PTup i205→R205
abbrev g205:=mkG 205 i205 o205
noncomputable def m205 (c265:F265) (c266:F266) (c264:F264) (y:PTup i205):R205:=
  (c264 (y.1.1,())).bind fun r0=>let X0:R205:=(c265 ((wI (y.1.2.1+y.2.1.2.1)),())).bind fun r2=>bif (eqI r0.1.1 1)then (some ((r0.1.1,(r2.1.1,((0:Int),()))),()))else bif (eqI r0.1.1 2)then ((c266 (y.2.1.1,())).bind fun r3=>some ((r0.1.1,(r2.1.1,r3.1)),()))else some (((0:Int),((0:Int),((0:Int),()))),());(c265 y.1.2).bind fun r1=>bif (eqI y.1.1 14)then X0 else bif (eqI y.1.1 15)then X0 else bif (eqI r0.1.1 1)then (some ((r0.1.1,(r1.1.1,((0:Int),()))),()))else bif (eqI r0.1.1 2)then ((c266 (y.2.1.1,())).bind fun r2=>some ((r0.1.1,(r1.1.1,r2.1)),()))else some (((0:Int),((0:Int),((0:Int),()))),())
theorem s205 (c265:F265) (c266:F266) (c264:F264) (y):TE [g265 c265,g266 c266,g264 c264] Tryz.f205 i205 o205 y=m205 c265 c266 c264 y:=by kernel_rfl
noncomputable def r205:F205:=m205 r265 r266 r264
theorem k205:KO (g205 r205):=fk (s205 r265 r266 r264) ⟨k265,k266,k264,⟨⟩⟩ (by kernel_rfl)
abbrev i325:Ts:=[.p q3]
abbrev o325:Ts:=[]
abbrev F325:=FT i325 o325
abbrev g325:=mkG 325 i325 o325
noncomputable def m325 (y:PTup i325):Option (PTup o325×BTup i325):=
  some ((),((y.1.1,(y.1.2.1,(y.1.2.2.1,((Int.tmod (wI (y.1.2.2.2.1+1)) (16:Int)),y.1.2.2.2.2)))),()))
theorem s325 (y):TE [] Tryz.f325 i325 o325 y=m325 y:=by kernel_rfl
noncomputable def r325:F325:=m325
theorem k325:KO (g325 r325):=fk (s325) trivial (by kernel_rfl)
abbrev i298:Ts:=[.p [.int .i64, .int .i64, .int .i64, .int .i64, .int .i64, .bool, .sl true .i, .sl false .i], .v (.int .i64), .v (.int .i64)]
abbrev o298:Ts:=[]
abbrev F298:=FT i298 o298
abbrev g298:=mkG 298 i298 o298
noncomputable def m298 (c325:F325) (c266:F266) (y:PTup i298):Option (PTup o298×BTup i298):=
  (c266 y.2.2).bind fun r0=>
  bif (eqI y.2.1 0)then (some ((),((y.1.1,(r0.1.1,y.1.2.2)),())))
  else bif (eqI y.2.1 1)then (some ((),((y.1.1,(y.1.2.1,(r0.1.1,y.1.2.2.2))),())))
  else bif (eqI y.2.1 3)then (some ((),((y.1.1,(y.1.2.1,(y.1.2.2.1,((Int.tmod r0.1.1 16),y.1.2.2.2.2)))),())))
  else bif (eqI y.2.1 4)then (bif (leI 0 y.1.2.2.2.1)then (bif (ltI y.1.2.2.2.1 (lenI y.1.2.2.2.2.2.2.1))then ((c325 ((y.1.1,(y.1.2.1,(y.1.2.2.1,(y.1.2.2.2.1,(y.1.2.2.2.2.1,(y.1.2.2.2.2.2.1,((List.set y.1.2.2.2.2.2.2.1 (Int.toNat y.1.2.2.2.1) (Int.tmod r0.1.1 64)),y.1.2.2.2.2.2.2.2))))))),())).bind fun r1=>
     some ((),((r1.2.1.1,(r1.2.1.2.1,(r1.2.1.2.2.1,(r1.2.1.2.2.2.1,(r1.2.1.2.2.2.2.1,(r1.2.1.2.2.2.2.2.1,((List.set y.1.2.2.2.2.2.2.1 (Int.toNat y.1.2.2.2.1) (Int.tmod r0.1.1 64)),y.1.2.2.2.2.2.2.2))))))),())))
    else none)
   else none)
  else bif (eqI y.2.1 5)then (some ((),((y.1.1,(y.1.2.1,(y.1.2.2.1,(y.1.2.2.2.1,((Int.tmod r0.1.1 64),y.1.2.2.2.2.2))))),())))
  else some ((),(y.1,()))
theorem s298 (c325:F325) (c266:F266) (y):TE [g325 c325,g266 c266] Tryz.f298 i298 o298 y=m298 c325 c266 y:=by kernel_rfl
noncomputable def r298:F298:=m298 r325 r266
theorem k298:KO (g298 r298):=fk (s298 r325 r266) ⟨k325,k266,⟨⟩⟩ (by kernel_rfl)
abbrev i299:Ts:=[.a q6, .v (.int .i64), .v (.int .i64)]
abbrev o299:Ts:=[.a q6]
abbrev F299:=FT i299 o299
abbrev g299:=mkG 299 i299 o299
noncomputable def m299 (c150:F150) (c266:F266) (y:PTup i299):Option (PTup o299×BTup i299):=
  (c150 (y.1,())).bind fun r0=>
  bif (!r0.1.1)then (some ((y.1,()),()))
  else (c266 y.2.2).bind fun r1=>
  bif (eqI y.2.1 0)then (some (((y.1.1,(r1.1.1,y.1.2.2)),()),()))
  else bif (eqI y.2.1 1)then (some (((y.1.1,(y.1.2.1,(y.1.2.2.1,(y.1.2.2.2.1,((Int.tmod r1.1.1 32),y.1.2.2.2.2.2))))),()),()))
  else bif (eqI y.2.1 2)then (bif y.1.2.2.2.2.2.2.1 then (some (((y.1.1,(y.1.2.1,(y.1.2.2.1,(y.1.2.2.2.1,(y.1.2.2.2.2.1,((eqI (Int.tmod r1.1.1 2) (1:Int)),((eqI (Int.tmod r1.1.1 2) (1:Int)),()))))))),()),()))
   else some (((y.1.1,(y.1.2.1,(y.1.2.2.1,(y.1.2.2.2.1,(y.1.2.2.2.2.1,((eqI (Int.tmod r1.1.1 2) (1:Int)),(false,()))))))),()),()))
  else bif (eqI y.2.1 3)then (some (((y.1.1,(y.1.2.1,(y.1.2.2.1,(y.1.2.2.2.1,(y.1.2.2.2.2.1,(y.1.2.2.2.2.2.1,(false,()))))))),()),()))
  else some ((y.1,()),())
theorem s299 (c150:F150) (c266:F266) (y):TE [g150 c150,g266 c266] Tryz.f299 i299 o299 y=m299 c150 c266 y:=by kernel_rfl
noncomputable def r299:F299:=m299 r150 r266
theorem k299:KO (g299 r299):=fk (s299 r150 r266) ⟨k150,k266,⟨⟩⟩ (by kernel_rfl)
abbrev i318:Ts:=[.r q3, .v (.int .i64)]
abbrev o318:Ts:=[.v (.int .i64)]
abbrev F318:=FT i318 o318
abbrev g318:=mkG 318 i318 o318
noncomputable def m318 (y:PTup i318):Option (PTup o318×BTup i318):=
  bif (leI 0 (Int.tmod (wI ((wI ((Int.tmod y.2.1 8)+y.1.2.2.1))+(wI (Int.tdiv y.2.1 8)))) (16:Int)))then (bif (ltI (Int.tmod (wI ((wI ((Int.tmod y.2.1 8)+y.1.2.2.1))+(wI (Int.tdiv y.2.1 8)))) (16:Int)) (lenI y.1.2.2.2.2.2.2.1))then (some (((bXor Go.IntKind.i64 (rdE .i y.1.2.2.2.2.2.2.1 (Int.tmod (wI ((wI ((Int.tmod y.2.1 8)+y.1.2.2.1))+(wI (Int.tdiv y.2.1 8)))) (16:Int))) y.1.2.2.2.2.1),()),()))
   else none)
  else none
theorem s318 (y):TE [] Tryz.f318 i318 o318 y=m318 y:=by kernel_rfl
noncomputable def r318:F318:=m318
theorem k318:KO (g318 r318):=fk (s318) trivial (by kernel_rfl)
abbrev i277:Ts:=[.p [.int .i64, .int .i64, .int .i64, .int .i64, .int .i64, .bool, .sl false .i, .sl true .i]]
abbrev o277:Ts:=[.v (.bool), .v (.sl true .i), .v (.bool)]
abbrev F277:=FT i277 o277
abbrev g277:=mkG 277 i277 o277
noncomputable def m277 (c318:F318) (y:PTup i277):Option (PTup o277×BTup i277):=
  bif (ltI (Int.tmod y.1.1 64) (48:Int))then ((c318 (((wI (y.1.1+1)),y.1.2),((Int.tmod y.1.1 64),()))).bind fun r0=>
   bif (leN ((List.length y.1.2.2.2.2.2.2.2.1)+(List.length (r0.1.1::[]))) (E.most .i))then (some ((false,([],(false,()))),(((wI (y.1.1+1)),(y.1.2.1,(y.1.2.2.1,(y.1.2.2.2.1,(y.1.2.2.2.2.1,(y.1.2.2.2.2.2.1,(y.1.2.2.2.2.2.2.1,((y.1.2.2.2.2.2.2.2.1++(r0.1.1::[])),())))))))),())))
   else none)
  else bif (eqI (Int.tmod y.1.1 64) (48:Int))then (some ((true,(y.1.2.2.2.2.2.2.2.1,((ltI 127 y.1.2.1),()))),(((wI (y.1.1+1)),(y.1.2.1,(y.1.2.2.1,(y.1.2.2.2.1,(y.1.2.2.2.2.1,(true,(y.1.2.2.2.2.2.2.1,([],())))))))),())))
  else bif (eqI (Int.tmod y.1.1 64) (63:Int))then (some ((false,([],(false,()))),(((wI (y.1.1+1)),(y.1.2.1,(y.1.2.2.1,(y.1.2.2.2.1,(y.1.2.2.2.2.1,(false,y.1.2.2.2.2.2.2)))))),())))
  else some ((false,([],(false,()))),(((wI (y.1.1+1)),y.1.2),()))
theorem s277 (c318:F318) (y):TE [g318 c318] Tryz.f277 i277 o277 y=m277 c318 y:=by kernel_rfl
noncomputable def r277:F277:=m277 r318
theorem k277:KO (g277 r277):=fk (s277 r318) ⟨k318,⟨⟩⟩ (by kernel_rfl)
abbrev i278:Ts:=[.p q6]
abbrev o278:Ts:=[.v (.int .i64), .v (.bool)]
abbrev R278:=Option (PTup o278×BTup i278)
abbrev F278:=PTup i278→R278
abbrev g278:=mkG 278 i278 o278
noncomputable def m278 (y:PTup i278):R278:=
  let a0:=y.1;let a1:=a0.1;let a2:=a0.2;let a3:=a2.1;let a4:=a2.2;let a5:=a4.1;let a6:=a4.2;let a7:=a6.1;let a8:=a6.2;let a9:=a8.1;let a10:=a8.2;let a11:=a10.1;let X0:R278:=bif (! (eqI (Int.tmod a1 16) (15:Int)))then (some (((0:Int),((eqI (Int.tmod a1 16) (15:Int)),())),(((wI (a1+1)),(a3,(a3,((wI ((1:Int)-a7)),a8)))),())))else bif (eqI a9 0)then (some (((0:Int),((eqI (Int.tmod a1 16) (15:Int)),())),(((wI (a1+1)),(a3,(a3,((wI ((1:Int)-a7)),a8)))),())))else some (((wI ((8:Int)*(wI ((1:Int)-a7)))),(true,())),(((wI (a1+1)),(a3,(a3,((wI ((1:Int)-a7)),a8)))),()));let X1:R278:=bif (! (eqI (Int.tmod a1 16) (15:Int)))then (some (((0:Int),((eqI (Int.tmod a1 16) (15:Int)),())),(((wI (a1+1)),(a3,((wI (a5-1)),a6))),())))else bif (eqI a9 0)then (some (((0:Int),((eqI (Int.tmod a1 16) (15:Int)),())),(((wI (a1+1)),(a3,((wI (a5-1)),a6))),())))else some (((wI ((8:Int)*a7)),(true,())),(((wI (a1+1)),(a3,((wI (a5-1)),a6))),()));let X2:R278:=bif (! (eqI (Int.tmod a1 16) (15:Int)))then (some (((0:Int),((eqI (Int.tmod a1 16) (15:Int)),())),(((wI (a1+1)),(a3,(a3,a6))),())))else bif (eqI a9 0)then (some (((0:Int),((eqI (Int.tmod a1 16) (15:Int)),())),(((wI (a1+1)),(a3,(a3,a6))),())))else some (((wI ((8:Int)*a7)),(true,())),(((wI (a1+1)),(a3,(a3,a6))),()));let X3:R278:=some (((0:Int),((eqI (Int.tmod a1 16) (15:Int)),())),(((wI (a1+1)),(a3,((wI (a5-1)),(a7,((wI (a9-1)),(a11,(a11,()))))))),()));let X4:R278:=some (((0:Int),((eqI (Int.tmod a1 16) (15:Int)),())),(((wI (a1+1)),(a3,(a3,((wI ((1:Int)-a7)),((wI (a9-1)),(a11,(a11,()))))))),()));let X5:R278:=some (((0:Int),((eqI (Int.tmod a1 16) (15:Int)),())),(((wI (a1+1)),(a3,((wI (a5-1)),(a7,((wI (a9-1)),(a11,(false,()))))))),()));let X6:R278:=some (((0:Int),((eqI (Int.tmod a1 16) (15:Int)),())),(((wI (a1+1)),(a3,((wI (a5-1)),(a7,((wI (a9-1)),(a11,(true,()))))))),()));let X7:R278:=some (((0:Int),((eqI (Int.tmod a1 16) (15:Int)),())),(((wI (a1+1)),(a3,(a3,((wI ((1:Int)-a7)),((wI (a9-1)),(a11,(false,()))))))),()));let X8:R278:=some (((0:Int),((eqI (Int.tmod a1 16) (15:Int)),())),(((wI (a1+1)),(a3,(a3,((wI ((1:Int)-a7)),((wI (a9-1)),(a11,(true,()))))))),()));let X9:R278:=some (((0:Int),((eqI (Int.tmod a1 16) (15:Int)),())),(((wI (a1+1)),(a3,(a3,(a7,((wI (a9-1)),(a11,(a11,()))))))),()));let X10:R278:=some (((0:Int),((eqI (Int.tmod a1 16) (15:Int)),())),(((wI (a1+1)),(a3,(a3,(a7,((wI (a9-1)),(a11,(false,()))))))),()));let X11:R278:=some (((0:Int),((eqI (Int.tmod a1 16) (15:Int)),())),(((wI (a1+1)),(a3,(a3,(a7,((wI (a9-1)),(a11,(true,()))))))),()));bif (eqI a5 0)then (bif (ltI 0 a9)then (bif (eqI (Int.tmod a1 32) (0:Int))then (bif (ltI 0 a9)then (bif a10.2.1 then (bif (! (eqI (Int.tmod a1 16) (15:Int)))then X8 else bif (eqI (wI (a9-1)) (0:Int))then X8 else some (((wI ((8:Int)*(wI ((1:Int)-a7)))),(true,())),(((wI (a1+1)),(a3,(a3,((wI ((1:Int)-a7)),((wI (a9-1)),(a11,(true,()))))))),())))else bif (eqI (wI (a9-1)) (0:Int))then (bif (! (eqI (Int.tmod a1 16) (15:Int)))then X4 else bif (eqI (wI (a9-1)) (0:Int))then X4 else some (((wI ((8:Int)*(wI ((1:Int)-a7)))),(true,())),(((wI (a1+1)),(a3,(a3,((wI ((1:Int)-a7)),((wI (a9-1)),(a11,(a11,()))))))),())))else bif (! (eqI (Int.tmod a1 16) (15:Int)))then X7 else bif (eqI (wI (a9-1)) (0:Int))then X7 else some (((wI ((8:Int)*(wI ((1:Int)-a7)))),(true,())),(((wI (a1+1)),(a3,(a3,((wI ((1:Int)-a7)),((wI (a9-1)),(a11,(false,()))))))),())))else X0)else X0)else bif (eqI (Int.tmod a1 32) (0:Int))then (bif (ltI 0 a9)then (bif a10.2.1 then (bif (! (eqI (Int.tmod a1 16) (15:Int)))then X11 else bif (eqI (wI (a9-1)) (0:Int))then X11 else some (((wI ((8:Int)*a7)),(true,())),(((wI (a1+1)),(a3,(a3,(a7,((wI (a9-1)),(a11,(true,()))))))),())))else bif (eqI (wI (a9-1)) (0:Int))then (bif (! (eqI (Int.tmod a1 16) (15:Int)))then X9 else bif (eqI (wI (a9-1)) (0:Int))then X9 else some (((wI ((8:Int)*a7)),(true,())),(((wI (a1+1)),(a3,(a3,(a7,((wI (a9-1)),(a11,(a11,()))))))),())))else bif (! (eqI (Int.tmod a1 16) (15:Int)))then X10 else bif (eqI (wI (a9-1)) (0:Int))then X10 else some (((wI ((8:Int)*a7)),(true,())),(((wI (a1+1)),(a3,(a3,(a7,((wI (a9-1)),(a11,(false,()))))))),())))else X2)else X2)else bif (eqI (Int.tmod a1 32) (0:Int))then (bif (ltI 0 a9)then (bif a10.2.1 then (bif (! (eqI (Int.tmod a1 16) (15:Int)))then X6 else bif (eqI (wI (a9-1)) (0:Int))then X6 else some (((wI ((8:Int)*a7)),(true,())),(((wI (a1+1)),(a3,((wI (a5-1)),(a7,((wI (a9-1)),(a11,(true,()))))))),())))else bif (eqI (wI (a9-1)) (0:Int))then (bif (! (eqI (Int.tmod a1 16) (15:Int)))then X3 else bif (eqI (wI (a9-1)) (0:Int))then X3 else some (((wI ((8:Int)*a7)),(true,())),(((wI (a1+1)),(a3,((wI (a5-1)),(a7,((wI (a9-1)),(a11,(a11,()))))))),())))else bif (! (eqI (Int.tmod a1 16) (15:Int)))then X5 else bif (eqI (wI (a9-1)) (0:Int))then X5 else some (((wI ((8:Int)*a7)),(true,())),(((wI (a1+1)),(a3,((wI (a5-1)),(a7,((wI (a9-1)),(a11,(false,()))))))),())))else X1)else X1
theorem s278 (y):TE [] Tryz.f278 i278 o278 y=m278 y:=by kernel_rfl
noncomputable def r278:F278:=m278
theorem k278:KO (g278 r278):=fk (s278) trivial (by kernel_rfl)
abbrev i105:Ts:=[.r q8]
abbrev o105:Ts:=[.v (.bool)]
abbrev F105:=FT i105 o105
abbrev g105:=mkG 105 i105 o105
noncomputable def m105 (y:PTup i105):Option (PTup o105×BTup i105):=
  bif (eqI y.1.2.2.2.2.2.2.2.2.2.2.2.2.2.2.2.2.2.2.2.2.2.1 y.1.2.2.2.2.2.2.2.2.2.2.2.2.2.2.1)then (some (((eqI (lenI y.1.2.2.2.2.2.2.2.2.2.2.2.2.2.2.2.2.2.2.2.2.2.2.2.2.2.2.2.2.2.2.1) 0),()),()))
  else no
theorem s105 (y):TE [] Tryz.f105 i105 o105 y=m105 y:=by kernel_rfl
noncomputable def r105:F105:=m105
theorem k105:KO (g105 r105):=fk (s105) trivial (by kernel_rfl)
abbrev i106:Ts:=[.r q8]
abbrev o106:Ts:=[.v (.bool)]
abbrev F106:=FT i106 o106
abbrev g106:=mkG 106 i106 o106
noncomputable def m106 (y:PTup i106):Option (PTup o106×BTup i106):=
  bif (eqI y.1.2.2.2.2.2.2.2.2.2.2.2.2.2.2.2.2.2.2.2.2.2.2.2.2.2.2.2.2.2.2.2.2.1 y.1.2.2.2.2.2.2.2.2.2.2.2.2.2.2.1)then (some (((eqI (lenI y.1.2.2.2.2.2.2.2.2.2.2.2.2.2.2.2.2.2.2.2.2.2.2.2.2.2.2.2.2.2.2.2.2.2.2.2.2.2.2.2.2.1) 0),()),()))
  else no
theorem s106 (y):TE [] Tryz.f106 i106 o106 y=m106 y:=by kernel_rfl
noncomputable def r106:F106:=m106
theorem k106:KO (g106 r106):=fk (s106) trivial (by kernel_rfl)
abbrev i297:Ts:=[.p [.int .i64, .sl true .t], .v (.int .i64)]
abbrev o297:Ts:=[.a [.int .i64, .int .i64, .int .i64], .v (.bool)]
abbrev F297:=FT i297 o297
abbrev g297:=mkG 297 i297 o297
noncomputable def m297 (y:PTup i297):Option (PTup o297×BTup i297):=
  bif (eqI (lenI y.1.2.1) 0)then (some ((((0:Int),((0:Int),((0:Int),()))),(false,())),(y.1,())))
  else bif (ltI 0 (lenI y.1.2.1))then (bif (neI (rdE .t y.1.2.1 (0:Int)).1 y.2.1)then (some ((((0:Int),((0:Int),((0:Int),()))),(false,())),(y.1,())))
   else bif (ltI 0 (lenI y.1.2.1))then (bif (leI 1 (lenI y.1.2.1))then (some ((((rdE .t y.1.2.1 (0:Int)).1,((rdE .t y.1.2.1 (0:Int)).2.1,((rdE .t y.1.2.1 (0:Int)).2.2,()))),(true,())),((y.1.1,((List.drop (Int.toNat (1:Int)) y.1.2.1),())),())))
    else none)
   else none)
  else none
theorem s297 (y):TE [] Tryz.f297 i297 o297 y=m297 y:=by kernel_rfl
noncomputable def r297:F297:=m297
theorem k297:KO (g297 r297):=fk (s297) trivial (by kernel_rfl)
abbrev i239:Ts:=[.p q14, .v (.int .i64)]
abbrev o239:Ts:=[.v (.bool)]
abbrev F239:=FT i239 o239
abbrev g239:=mkG 239 i239 o239
noncomputable def m239 (c277:F277) (c298:F298) (c297:F297) (y:PTup i239):Option (PTup o239×BTup i239):=
  let a0:=y.1;let a1:=a0.2;let a2:=a1.2;let a3:=a2.2;let a4:=a3.2;let a5:=a4.2;let a6:=a5.2;let a7:=a6.2;let a8:=a7.2.2;(c297 ((a7.2.1,(a8.1,())),(a0.1,()))).bind fun r0=>
  bif r0.1.2.1 then ((c298 ((a0.1,(a1.1,(a2.1,(a3.1,(a4.1,(a5.1,(a6.1,(a7.1,())))))))),r0.1.1.2)).bind fun r1=>
   some ((true,()),((r1.2.1.1,(r1.2.1.2.1,(r1.2.1.2.2.1,(r1.2.1.2.2.2.1,(r1.2.1.2.2.2.2.1,(r1.2.1.2.2.2.2.2.1,(r1.2.1.2.2.2.2.2.2.1,(a7.1,(r0.2.1.1,(r0.2.1.2.1,a8.2)))))))))),())))
  else bif (leI (mnI y.2.1 (20000:Int)) a0.1)then (some ((false,()),((a0.1,(a1.1,(a2.1,(a3.1,(a4.1,(a5.1,(a6.1,(a7.1,(r0.2.1.1,(r0.2.1.2.1,a8.2)))))))))),())))
  else (c277 ((a0.1,(a1.1,(a2.1,(a3.1,(a4.1,(a5.1,(a6.1,(a7.1,())))))))),())).bind fun r1=>
  bif r1.1.1 then (bif (leN ((List.length a8.2.1)+(List.length (r1.1.2.1::[]))) (E.most .n))then (some ((true,()),((r1.2.1.1,(r1.2.1.2.1,(r1.2.1.2.2.1,(r1.2.1.2.2.2.1,(r1.2.1.2.2.2.2.1,(r1.2.1.2.2.2.2.2.1,(a6.1,(r1.2.1.2.2.2.2.2.2.2.1,(r0.2.1.1,(r0.2.1.2.1,((a8.2.1++(r1.1.2.1::[])),()))))))))))),())))
   else none)
  else some ((true,()),((r1.2.1.1,(r1.2.1.2.1,(r1.2.1.2.2.1,(r1.2.1.2.2.2.1,(r1.2.1.2.2.2.2.1,(r1.2.1.2.2.2.2.2.1,(a6.1,(r1.2.1.2.2.2.2.2.2.2.1,(r0.2.1.1,(r0.2.1.2.1,a8.2)))))))))),()))
theorem s239 (c277:F277) (c298:F298) (c297:F297) (y):TE [g277 c277,g298 c298,g297 c297] Tryz.f239 i239 o239 y=m239 c277 c298 c297 y:=by kernel_rfl
noncomputable def r239:F239:=m239 r277 r298 r297
theorem k239:KO (g239 r239):=fk (s239 r277 r298 r297) ⟨k277,k298,k297,⟨⟩⟩ (by kernel_rfl)
abbrev i195:Ts:=[.p q14, .v (.int .i64)]
abbrev o195:Ts:=[]
abbrev F195:=FT i195 o195
abbrev g195:=mkG 195 i195 o195
abbrev lc195_0:Ts:=[.v (.int .i64)]
abbrev lb195_0:Ts:=[.p q14]
abbrev lv195_0:Ts:=[]
abbrev lr195_0:Ts:=[]
abbrev R195_0:=Option (Sum (PTup lv195_0) (PTup lr195_0)×BTup lb195_0)
abbrev B195_0:=PTup lb195_0→PTup lv195_0→R195_0
abbrev A195_0:=PTup lc195_0→B195_0
noncomputable def w195_0 (c239:F239) (again:B195_0) (x:PTup lc195_0) (y:PTup lb195_0) (z:PTup lv195_0):R195_0:=
  (c239 (y.1,x)).bind fun r0=>
  bif r0.1.1 then (again (r0.2.1,()) ())
  else some ((Sum.inl ()),(r0.2.1,()))
noncomputable def e195_0 (l:A195_0):LoopE:=⟨[1],lc195_0,[0],lb195_0,[],lv195_0,[],lr195_0,0,[],l⟩
noncomputable def m195 (c239:F239) (l0:A195_0) (y:PTup i195):Option (PTup o195×BTup i195):=
  (l0 y.2 (y.1,()) ()).bind fun r0=>
  sumElim r0.1 (fun r1=>some ((),(r0.2.1,())))
  (fun r1=>some ((),(r0.2.1,())))
noncomputable def E195 (c239:F239) (l0:A195_0):CEnv:=⟨⟨Tryz.prog,fnsL [g239 c239]⟩,loopsL [(0,e195_0 l0)]⟩
theorem t195_0 (c239:F239) (l0:A195_0) (again) (x y z):loopRound (E195 c239 l0) (loopAt (bodyOf Tryz.f195) 0) (e195_0 l0) Tryz.f195.ntmps again x y z=w195_0 c239 again x y z:=by kernel_rfl
noncomputable def n195_0 (c239:F239):Nat→A195_0
  |0,_,_,_=>none
  |n+1,x,y,z=>w195_0 c239 (fun y z=>n195_0 c239 n x y z) x y z
theorem s195 (c239:F239) (l0:A195_0) (y):tevF (E195 c239 l0) Tryz.f195 i195 o195 y=m195 c239 l0 y:=by kernel_rfl
noncomputable def L195_0:A195_0:=n195_0 r239 fuel
noncomputable def r195:F195:=m195 r239 L195_0
theorem k195:KO (g195 r195):=by
  have hE: ∀g f,(E195 r239 L195_0).env.fns g=some f→CallOk Tryz.prog g f:=fnsL_ok ⟨k239,⟨⟩⟩
  have h0:LoopOk Tryz.prog Tryz.f195.ntmps (loopAt (bodyOf Tryz.f195) 0) (e195_0 L195_0):=lp_ok (E:=E195 r239 L195_0) rfl hE mixed (AllLoops.of_list (l:=[]) (by kernel_rfl) trivial) (n195_0 r239) (fun _ _ _=>rfl) (fun n x y z=>t195_0 r239 L195_0 _ x y z) rfl
  exact fn_ok (E:=E195 r239 L195_0) rfl hE mixed (by kernel_rfl) (by kernel_rfl) (AllLoops.of_list (l:=[(loopAt (bodyOf Tryz.f195) 0)]) (by kernel_rfl) (.one (by kernel_rfl) h0 trivial)) (s195 r239 L195_0)
abbrev i240:Ts:=[.p q15, .v (.int .i64)]
abbrev o240:Ts:=[.v (.bool)]
abbrev F240:=FT i240 o240
abbrev g240:=mkG 240 i240 o240
noncomputable def m240 (c278:F278) (c297:F297) (c299:F299) (y:PTup i240):Option (PTup o240×BTup i240):=
  (c297 ((y.1.2.2.2.2.2.2.2.1,(y.1.2.2.2.2.2.2.2.2.1,())),(y.1.1,()))).bind fun r0=>
  bif r0.1.2.1 then ((c299 ((y.1.1,(y.1.2.1,(y.1.2.2.1,(y.1.2.2.2.1,(y.1.2.2.2.2.1,(y.1.2.2.2.2.2.1,(y.1.2.2.2.2.2.2.1,()))))))),r0.1.1.2)).bind fun r1=>
   some ((true,()),((r1.1.1.1,(r1.1.1.2.1,(r1.1.1.2.2.1,(r1.1.1.2.2.2.1,(r1.1.1.2.2.2.2.1,(r1.1.1.2.2.2.2.2.1,(r1.1.1.2.2.2.2.2.2.1,(r0.2.1.1,(r0.2.1.2.1,y.1.2.2.2.2.2.2.2.2.2))))))))),())))
  else bif (leI (mnI y.2.1 (20000:Int)) y.1.1)then (some ((false,()),((y.1.1,(y.1.2.1,(y.1.2.2.1,(y.1.2.2.2.1,(y.1.2.2.2.2.1,(y.1.2.2.2.2.2.1,(y.1.2.2.2.2.2.2.1,(r0.2.1.1,(r0.2.1.2.1,y.1.2.2.2.2.2.2.2.2.2))))))))),())))
  else (c278 ((y.1.1,(y.1.2.1,(y.1.2.2.1,(y.1.2.2.2.1,(y.1.2.2.2.2.1,(y.1.2.2.2.2.2.1,(y.1.2.2.2.2.2.2.1,()))))))),())).bind fun r1=>
  bif r1.1.2.1 then (bif (leN ((List.length y.1.2.2.2.2.2.2.2.2.2.1)+(List.length (r1.1.1::[]))) (E.most .i))then (some ((true,()),((r1.2.1.1,(r1.2.1.2.1,(r1.2.1.2.2.1,(r1.2.1.2.2.2.1,(r1.2.1.2.2.2.2.1,(r1.2.1.2.2.2.2.2.1,(r1.2.1.2.2.2.2.2.2.1,(r0.2.1.1,(r0.2.1.2.1,((y.1.2.2.2.2.2.2.2.2.2.1++(r1.1.1::[])),())))))))))),())))
   else none)
  else some ((true,()),((r1.2.1.1,(r1.2.1.2.1,(r1.2.1.2.2.1,(r1.2.1.2.2.2.1,(r1.2.1.2.2.2.2.1,(r1.2.1.2.2.2.2.2.1,(r1.2.1.2.2.2.2.2.2.1,(r0.2.1.1,(r0.2.1.2.1,y.1.2.2.2.2.2.2.2.2.2))))))))),()))
theorem s240 (c278:F278) (c297:F297) (c299:F299) (y):TE [g278 c278,g297 c297,g299 c299] Tryz.f240 i240 o240 y=m240 c278 c297 c299 y:=by kernel_rfl
noncomputable def r240:F240:=m240 r278 r297 r299
theorem k240:KO (g240 r240):=fk (s240 r278 r297 r299) ⟨k278,k297,k299,⟨⟩⟩ (by kernel_rfl)
abbrev i196:Ts:=[.p q15, .v (.int .i64)]
abbrev o196:Ts:=[]
abbrev F196:=FT i196 o196
abbrev g196:=mkG 196 i196 o196
abbrev lc196_0:Ts:=[.v (.int .i64)]
abbrev lb196_0:Ts:=[.p q15]
abbrev lv196_0:Ts:=[]
abbrev lr196_0:Ts:=[]
abbrev R196_0:=Option (Sum (PTup lv196_0) (PTup lr196_0)×BTup lb196_0)
abbrev B196_0:=PTup lb196_0→PTup lv196_0→R196_0
abbrev A196_0:=PTup lc196_0→B196_0
noncomputable def w196_0 (c240:F240) (again:B196_0) (x:PTup lc196_0) (y:PTup lb196_0) (z:PTup lv196_0):R196_0:=
  (c240 (y.1,x)).bind fun r0=>
  bif r0.1.1 then (again (r0.2.1,()) ())
  else some ((Sum.inl ()),(r0.2.1,()))
noncomputable def e196_0 (l:A196_0):LoopE:=⟨[1],lc196_0,[0],lb196_0,[],lv196_0,[],lr196_0,0,[],l⟩
noncomputable def m196 (c240:F240) (l0:A196_0) (y:PTup i196):Option (PTup o196×BTup i196):=
  (l0 y.2 (y.1,()) ()).bind fun r0=>
  sumElim r0.1 (fun r1=>some ((),(r0.2.1,())))
  (fun r1=>some ((),(r0.2.1,())))
noncomputable def E196 (c240:F240) (l0:A196_0):CEnv:=⟨⟨Tryz.prog,fnsL [g240 c240]⟩,loopsL [(0,e196_0 l0)]⟩
theorem t196_0 (c240:F240) (l0:A196_0) (again) (x y z):loopRound (E196 c240 l0) (loopAt (bodyOf Tryz.f196) 0) (e196_0 l0) Tryz.f196.ntmps again x y z=w196_0 c240 again x y z:=by kernel_rfl
noncomputable def n196_0 (c240:F240):Nat→A196_0
  |0,_,_,_=>none
  |n+1,x,y,z=>w196_0 c240 (fun y z=>n196_0 c240 n x y z) x y z
theorem s196 (c240:F240) (l0:A196_0) (y):tevF (E196 c240 l0) Tryz.f196 i196 o196 y=m196 c240 l0 y:=by kernel_rfl
noncomputable def L196_0:A196_0:=n196_0 r240 fuel
noncomputable def r196:F196:=m196 r240 L196_0
theorem k196:KO (g196 r196):=by
  have hE: ∀g f,(E196 r240 L196_0).env.fns g=some f→CallOk Tryz.prog g f:=fnsL_ok ⟨k240,⟨⟩⟩
  have h0:LoopOk Tryz.prog Tryz.f196.ntmps (loopAt (bodyOf Tryz.f196) 0) (e196_0 L196_0):=lp_ok (E:=E196 r240 L196_0) rfl hE mixed (AllLoops.of_list (l:=[]) (by kernel_rfl) trivial) (n196_0 r240) (fun _ _ _=>rfl) (fun n x y z=>t196_0 r240 L196_0 _ x y z) rfl
  exact fn_ok (E:=E196 r240 L196_0) rfl hE mixed (by kernel_rfl) (by kernel_rfl) (AllLoops.of_list (l:=[(loopAt (bodyOf Tryz.f196) 0)]) (by kernel_rfl) (.one (by kernel_rfl) h0 trivial)) (s196 r240 L196_0)
abbrev i127:Ts:=[.p [.sl false .n, .sl false .i, .sl false .i, .int .i64, .int .i64, .int .i64, .int .i64, .int .i64, .bool, .bool, .bool, .bool, .bool, .int .i64, .int .i64, .bool, .int .i64, .bool, .int .i64, .int .i64, .sl false .i, .int .i64, .int .i64, .int .i64, .int .i64, .int .i64, .bool, .sl true .i, .sl true .i, .int .i64, .sl true .t, .sl true .n, .int .i64, .int .i64, .int .i64, .int .i64, .int .i64, .bool, .bool, .int .i64, .sl true .t, .sl true .i]]
abbrev o127:Ts:=[]
abbrev F127:=FT i127 o127
abbrev g127:=mkG 127 i127 o127
noncomputable def m127 (c195:F195) (c196:F196) (y:PTup i127):Option (PTup o127×BTup i127):=
  let a0:=y.1;let a1:=a0.2;let a2:=a1.2;let a3:=a2.2;let a4:=a3.2;let a5:=a4.2;let a6:=a5.2;let a7:=a6.2;let a8:=a7.2;let a9:=a8.2;let a10:=a9.2;let a11:=a10.2;let a12:=a11.2;let a13:=a12.2;let a14:=a13.2;let a15:=a14.2;let a16:=a15.2;let a17:=a16.2;let a18:=a17.2;let a19:=a18.2;let a20:=a19.2;let a21:=a20.2;let a22:=a21.2;let a23:=a22.2;let a24:=a23.2.2;let a25:=a24.2.2;(c195 ((a21.1,(a22.1,(a23.1,(a23.2.1,(a24.1,(a24.2.1,(a25.1,(a25.2.1,(a25.2.2.1,(a25.2.2.2.1,(a25.2.2.2.2.1,()))))))))))),(a14.1,()))).bind fun r0=>
  (c196 (a25.2.2.2.2.2,(a14.1,()))).bind fun r1=>
  some ((),((a0.1,(a1.1,(a2.1,(a3.1,(a4.1,(a5.1,(a6.1,(a7.1,(a8.1,(a9.1,(a10.1,(a11.1,(a12.1,(a13.1,(a14.1,(a15.1,(a16.1,(a17.1,(a18.1,(a19.1,(a20.1,(r0.2.1.1,(r0.2.1.2.1,(r0.2.1.2.2.1,(r0.2.1.2.2.2.1,(r0.2.1.2.2.2.2.1,(r0.2.1.2.2.2.2.2.1,(r0.2.1.2.2.2.2.2.2.1,(r0.2.1.2.2.2.2.2.2.2.1,(r0.2.1.2.2.2.2.2.2.2.2.1,(r0.2.1.2.2.2.2.2.2.2.2.2.1,(r0.2.1.2.2.2.2.2.2.2.2.2.2.1,r1.2.1)))))))))))))))))))))))))))))))),()))
theorem s127 (c195:F195) (c196:F196) (y):TE [g195 c195,g196 c196] Tryz.f127 i127 o127 y=m127 c195 c196 y:=by kernel_rfl
noncomputable def r127:F127:=m127 r195 r196
theorem k127:KO (g127 r127):=fk (s127 r195 r196) ⟨k195,k196,⟨⟩⟩ (by kernel_rfl)
abbrev i31:Ts:=[.a q8]
abbrev o31:Ts:=[.a q13]
abbrev F31:=FT i31 o31
abbrev g31:=mkG 31 i31 o31
noncomputable def m31 (c127:F127) (c34:F34) (c107:F107) (y:PTup i31):Option (PTup o31×BTup i31):=
  (c107 (y.1,())).bind fun r0=>
  (c34 (y.1,())).bind fun r1=>
  bif r1.1.1 then ((c127 (r0.1.1,())).bind fun r2=>let f0:=r2.2;let f1:=f0.1;let f2:=f1.2;let f3:=f2.2;let f4:=f3.2;let f5:=f4.2;let f6:=f5.2;let f7:=f6.2;let f8:=f7.2;let f9:=f8.2;let f10:=f9.2.2;let f11:=f10.2;let f12:=f11.2.2;let f13:=f12.2.2;some (((r0.1.1.1,(r0.1.1.2.1,(r0.1.1.2.2.1,(f4.1,(f5.1,(f6.1,(f7.1,(f8.1,(f9.1,(f9.2.1,(f10.1,(f11.1,(f11.2.1,(f12.1,(f12.2.1,(f13.1,(f13.2.1,(f13.2.2.1,(f13.2.2.2.1,(f13.2.2.2.2.1,(r0.1.1.2.2.2.2.2.2.2.2.2.2.2.2.2.2.2.2.2.2.2.2.1,f13.2.2.2.2.2.2))))))))))))))))))))),()),()))
  else some ((r0.1.1,()),())
theorem s31 (c127:F127) (c34:F34) (c107:F107) (y):TE [g127 c127,g34 c34,g107 c107] Tryz.f31 i31 o31 y=m31 c127 c34 c107 y:=by kernel_rfl
noncomputable def r31:F31:=m31 r127 r34 r107
theorem k31:KO (g31 r31):=fk (s31 r127 r34 r107) ⟨k127,k34,k107,⟨⟩⟩ (by kernel_rfl)
abbrev i35:Ts:=[.v (.sl false .b)]
abbrev o35:Ts:=[.a q13]
abbrev F35:=FT i35 o35
abbrev g35:=mkG 35 i35 o35
noncomputable def m35 (c103:F103) (c102:F102) (y:PTup i35):Option (PTup o35×BTup i35):=
  (c102 y).bind fun r0=>
  (c103 (r0.1.1,())).bind fun r1=>
  some ((r1.1.1,()),())
theorem s35 (c103:F103) (c102:F102) (y):TE [g103 c103,g102 c102] Tryz.f35 i35 o35 y=m35 c103 c102 y:=by kernel_rfl
noncomputable def r35:F35:=m35 r103 r102
theorem k35:KO (g35 r35):=fk (s35 r103 r102) ⟨k103,k102,⟨⟩⟩ (by kernel_rfl)
abbrev i202:Ts:=[.r q8, .v (.int .i64)]
abbrev o202:Ts:=[.v (.int .i64)]
abbrev F202:=FT i202 o202
abbrev g202:=mkG 202 i202 o202
noncomputable def m202 (y:PTup i202):Option (PTup o202×BTup i202):=
  bif (ltI 20000 (wI (y.1.2.2.2.2.2.2.2.2.2.2.2.2.2.2.1+y.2.1)))then (some (((5:Int),()),()))
  else some (((0:Int),()),())
theorem s202 (y):TE [] Tryz.f202 i202 o202 y=m202 y:=by kernel_rfl
noncomputable def r202:F202:=m202
theorem k202:KO (g202 r202):=fk (s202) trivial (by kernel_rfl)
abbrev i319:Ts:=[.v (.int .i64)]
abbrev o319:Ts:=[.v (.int .i64)]
abbrev F319:=FT i319 o319
abbrev g319:=mkG 319 i319 o319
noncomputable def m319 (y:PTup i319):Option (PTup o319×BTup i319):=
  some (((mnI (mxI y.1 (0:Int)) (20000:Int)),()),())
theorem s319 (y):TE [] Tryz.f319 i319 o319 y=m319 y:=by kernel_rfl
noncomputable def r319:F319:=m319
theorem k319:KO (g319 r319):=fk (s319) trivial (by kernel_rfl)
abbrev i283:Ts:=[.v (.int .i64), .v (.int .i64), .v (.int .i64), .v (.int .i64)]
abbrev o283:Ts:=[.v (.bool)]
abbrev F283:=FT i283 o283
abbrev g283:=mkG 283 i283 o283
noncomputable def m283 (c222:F222) (c319:F319) (y:PTup i283):Option (PTup o283×BTup i283):=
  (c319 (y.1,())).bind fun r0=>
  (c222 (r0.1.1,y.2.2)).bind fun r1=>
  (c319 (y.2.1,())).bind fun r2=>
  (c222 (r2.1.1,y.2.2)).bind fun r3=>
  some (((ltI r1.1.1 r3.1.1),()),())
theorem s283 (c222:F222) (c319:F319) (y):TE [g222 c222,g319 c319] Tryz.f283 i283 o283 y=m283 c222 c319 y:=by kernel_rfl
noncomputable def r283:F283:=m283 r222 r319
theorem k283:KO (g283 r283):=fk (s283 r222 r319) ⟨k222,k319,⟨⟩⟩ (by kernel_rfl)
abbrev i263:Ts:=[.v (.int .i64), .v (.int .i64)]
abbrev o263:Ts:=[.v (.bool)]
abbrev F263:=FT i263 o263
abbrev g263:=mkG 263 i263 o263
noncomputable def m263 (c283:F283) (y:PTup i263):Option (PTup o263×BTup i263):=
  (c283 (y.1,(y.2.1,((0:Int),((32:Int),()))))).bind fun r0=>
  some (r0.1,())
theorem s263 (c283:F283) (y):TE [g283 c283] Tryz.f263 i263 o263 y=m263 c283 y:=by kernel_rfl
noncomputable def r263:F263:=m263 r283
theorem k263:KO (g263 r263):=fk (s263 r283) ⟨k283,⟨⟩⟩ (by kernel_rfl)
abbrev i203:Ts:=[.r q8]
abbrev o203:Ts:=[.v (.bool)]
abbrev F203:=FT i203 o203
abbrev g203:=mkG 203 i203 o203
noncomputable def m203 (c263:F263) (y:PTup i203):Option (PTup o203×BTup i203):=
  bif (!y.1.2.2.2.2.2.2.2.2.2.2.2.2.2.2.2.1)then (bif (!y.1.2.2.2.2.2.2.2.2.2.2.2.1)then ((c263 (y.1.2.2.2.2.2.2.2.2.2.2.2.2.2.2.2.2.2.2.1,(y.1.2.2.2.2.2.2.2.2.2.2.2.2.2.2.1,()))).bind fun r0=>
    some (r0.1,()))
   else no)
  else no
theorem s203 (c263:F263) (y):TE [g263 c263] Tryz.f203 i203 o203 y=m203 c263 y:=by kernel_rfl
noncomputable def r203:F203:=m203 r263
theorem k203:KO (g203 r203):=fk (s203 r263) ⟨k263,⟨⟩⟩ (by kernel_rfl)
abbrev i204:Ts:=[.r q8]
abbrev o204:Ts:=[.v (.bool)]
abbrev F204:=FT i204 o204
abbrev g204:=mkG 204 i204 o204
noncomputable def m204 (c263:F263) (y:PTup i204):Option (PTup o204×BTup i204):=
  (c263 (y.1.2.2.2.2.2.2.2.2.2.2.2.2.2.2.2.2.2.2.1,(y.1.2.2.2.2.2.2.2.2.2.2.2.2.2.2.1,()))).bind fun r0=>
  bif r0.1.1 then (bif y.1.2.2.2.2.2.2.2.2.2.2.2.2.2.2.2.2.2.2.2.2.2.2.2.2.2.2.2.2.2.2.2.2.2.2.2.2.2.2.1 then (some (((!y.1.2.2.2.2.2.2.2.2.2.2.2.1),()),()))
   else no)
  else bif y.1.2.2.2.2.2.2.2.2.2.2.2.2.2.2.2.2.2.1 then (some (((!y.1.2.2.2.2.2.2.2.2.2.2.2.1),()),()))
  else no
theorem s204 (c263:F263) (y):TE [g263 c263] Tryz.f204 i204 o204 y=m204 c263 y:=by kernel_rfl
noncomputable def r204:F204:=m204 r263
theorem k204:KO (g204 r204):=fk (s204 r263) ⟨k263,⟨⟩⟩ (by kernel_rfl)
abbrev i142:Ts:=[.r q8]
abbrev o142:Ts:=[.v (.int .i64)]
abbrev R142:=Option (PTup o142×BTup i142)
abbrev F142:=PTup i142→R142
abbrev g142:=mkG 142 i142 o142
noncomputable def m142 (c204:F204) (c203:F203) (c202:F202) (c105:F105) (c106:F106) (c205:F205) (c43:F43) (c206:F206) (c156:F156) (y:PTup i142):R142:=
  let a0:=y.1;let a1:=a0.2;let a2:=a1.2;let a3:=a2.2;let a4:=a3.2;let a5:=a4.2;let a6:=a5.2;let a7:=a6.2;let a8:=a7.2;let a9:=a8.2;let a10:=a9.2;let a11:=a10.2;let a12:=a11.2;let a13:=a12.2;let a14:=a13.2;let a15:=a14.2;let a16:=a15.2;let a17:=a16.2;let a18:=a17.2;let a19:=a18.2;let a20:=a19.2;let a21:=a20.2;let a22:=a21.2;let a23:=a22.2;let a24:=a23.2;let a25:=a24.2;let a26:=a25.2;let a27:=a26.2;let a28:=a27.2;let a29:=a28.2;let a30:=a29.1;let a31:=a29.2;let a32:=a31.1;let a33:=a31.2;let a34:=a33.2;let a35:=a34.2;let a36:=a35.2;let a37:=a36.2;let a38:=a37.2;let a39:=a38.2;let a40:=a39.2;let a41:=a40.2;let a42:=a41.2.1;bif a15.1 then ((c202 (a0,((7:Int),()))).bind fun r0=>some (r0.1,()))else (c203 (a0,())).bind fun r0=>bif r0.1.1 then ((c106 (a0,())).bind fun r1=>bif (!r1.1.1)then (some (((2:Int),()),()))else (c204 (a0,())).bind fun r2=>bif r2.1.1 then ((c202 (a0,((7:Int),()))).bind fun r3=>some (r3.1,()))else (c156 ((a0.1,()),((a2.1,(a3.1,())),(a7.1,())))).bind fun r3=>let X0:R142:=bif (leI a41.1 (lenI a42))then (some (((4:Int),()),()))else (c43 (r3.1.1.1,())).bind fun r7=>(c202 (a0,r7.1)).bind fun r8=>some (r8.1,());let X1:R142:=bif (leI a41.1 (lenI a42))then (some (((4:Int),()),()))else (c43 (r3.1.1.1,())).bind fun r6=>(c202 (a0,r6.1)).bind fun r7=>some (r7.1,());let X2:R142:=(c43 (r3.1.1.1,())).bind fun r7=>(c202 (a0,r7.1)).bind fun r8=>some (r8.1,());let X3:R142:=(c43 (r3.1.1.1,())).bind fun r6=>(c202 (a0,r6.1)).bind fun r7=>some (r7.1,());let X4:R142:=(c43 (r3.1.1.1,())).bind fun r8=>(c202 (a0,r8.1)).bind fun r9=>some (r9.1,());let X5:R142:=bif (leI a41.1 (lenI a42))then (some (((4:Int),()),()))else X4;(c205 (r3.1.1,((a4.1,(a5.1,(a6.1,(a7.1,(a8.1,(a9.1,(a10.1,(a11.1,())))))))),()))).bind fun r4=>(c206 (r4.1.2.1,())).bind fun r5=>let X6:R142:=bif (eqI r4.1.1 1)then (bif (eqI r5.1.1 3)then ((c106 (a0,())).bind fun r6=>let X9:R142:=bif (eqI r4.1.1 2)then (bif (eqI r5.1.1 3)then X0 else X2)else X2;bif (!r6.1.1)then (some (((2:Int),()),()))else bif (eqI r4.1.1 2)then (bif (eqI r5.1.1 2)then (bif (leI a30 (lenI a32))then (some (((3:Int),()),()))else X9)else X9)else X9)else bif (eqI r4.1.1 2)then (bif (eqI r5.1.1 2)then (bif (leI a30 (lenI a32))then (some (((3:Int),()),()))else bif (eqI r4.1.1 2)then (bif (eqI r5.1.1 3)then X1 else X3)else X3)else bif (eqI r4.1.1 2)then (bif (eqI r5.1.1 3)then X1 else X3)else X3)else bif (eqI r4.1.1 2)then (bif (eqI r5.1.1 3)then X1 else X3)else X3)else bif (eqI r4.1.1 2)then (bif (eqI r5.1.1 2)then (bif (leI a30 (lenI a32))then (some (((3:Int),()),()))else bif (eqI r4.1.1 2)then (bif (eqI r5.1.1 3)then X1 else X3)else X3)else bif (eqI r4.1.1 2)then (bif (eqI r5.1.1 3)then X1 else X3)else X3)else bif (eqI r4.1.1 2)then (bif (eqI r5.1.1 3)then X1 else X3)else X3;let X7:R142:=bif (eqI r4.1.1 2)then (bif (eqI r5.1.1 2)then (bif (leI a30 (lenI a32))then (some (((3:Int),()),()))else bif (eqI r4.1.1 2)then (bif (eqI r5.1.1 3)then X0 else X2)else X2)else bif (eqI r4.1.1 2)then (bif (eqI r5.1.1 3)then X0 else X2)else X2)else bif (eqI r4.1.1 2)then (bif (eqI r5.1.1 3)then X0 else X2)else X2;let X8:R142:=bif (eqI r4.1.1 2)then (bif (eqI r5.1.1 3)then X5 else X4)else X4;bif (eqI r4.1.1 1)then (bif (eqI r5.1.1 2)then ((c105 (a0,())).bind fun r6=>bif (!r6.1.1)then (some (((1:Int),()),()))else bif (eqI r4.1.1 1)then (bif (eqI r5.1.1 3)then ((c106 (a0,())).bind fun r7=>bif (!r7.1.1)then (some (((2:Int),()),()))else bif (eqI r4.1.1 2)then (bif (eqI r5.1.1 2)then (bif (leI a30 (lenI a32))then (some (((3:Int),()),()))else X8)else X8)else X8)else X7)else X7)else X6)else X6)else (c204 (a0,())).bind fun r1=>bif r1.1.1 then ((c202 (a0,((7:Int),()))).bind fun r2=>some (r2.1,()))else (c156 ((a0.1,()),((a2.1,(a3.1,())),(a7.1,())))).bind fun r2=>let X10:R142:=bif (leI a41.1 (lenI a42))then (some (((4:Int),()),()))else (c43 (r2.1.1.1,())).bind fun r6=>(c202 (a0,r6.1)).bind fun r7=>some (r7.1,());let X11:R142:=bif (leI a41.1 (lenI a42))then (some (((4:Int),()),()))else (c43 (r2.1.1.1,())).bind fun r5=>(c202 (a0,r5.1)).bind fun r6=>some (r6.1,());let X12:R142:=(c43 (r2.1.1.1,())).bind fun r6=>(c202 (a0,r6.1)).bind fun r7=>some (r7.1,());let X13:R142:=(c43 (r2.1.1.1,())).bind fun r5=>(c202 (a0,r5.1)).bind fun r6=>some (r6.1,());let X14:R142:=(c43 (r2.1.1.1,())).bind fun r7=>(c202 (a0,r7.1)).bind fun r8=>some (r8.1,());let X15:R142:=bif (leI a41.1 (lenI a42))then (some (((4:Int),()),()))else X14;(c205 (r2.1.1,((a4.1,(a5.1,(a6.1,(a7.1,(a8.1,(a9.1,(a10.1,(a11.1,())))))))),()))).bind fun r3=>(c206 (r3.1.2.1,())).bind fun r4=>let X16:R142:=bif (eqI r3.1.1 1)then (bif (eqI r4.1.1 3)then ((c106 (a0,())).bind fun r5=>let X19:R142:=bif (eqI r3.1.1 2)then (bif (eqI r4.1.1 3)then X10 else X12)else X12;bif (!r5.1.1)then (some (((2:Int),()),()))else bif (eqI r3.1.1 2)then (bif (eqI r4.1.1 2)then (bif (leI a30 (lenI a32))then (some (((3:Int),()),()))else X19)else X19)else X19)else bif (eqI r3.1.1 2)then (bif (eqI r4.1.1 2)then (bif (leI a30 (lenI a32))then (some (((3:Int),()),()))else bif (eqI r3.1.1 2)then (bif (eqI r4.1.1 3)then X11 else X13)else X13)else bif (eqI r3.1.1 2)then (bif (eqI r4.1.1 3)then X11 else X13)else X13)else bif (eqI r3.1.1 2)then (bif (eqI r4.1.1 3)then X11 else X13)else X13)else bif (eqI r3.1.1 2)then (bif (eqI r4.1.1 2)then (bif (leI a30 (lenI a32))then (some (((3:Int),()),()))else bif (eqI r3.1.1 2)then (bif (eqI r4.1.1 3)then X11 else X13)else X13)else bif (eqI r3.1.1 2)then (bif (eqI r4.1.1 3)then X11 else X13)else X13)else bif (eqI r3.1.1 2)then (bif (eqI r4.1.1 3)then X11 else X13)else X13;let X17:R142:=bif (eqI r3.1.1 2)then (bif (eqI r4.1.1 2)then (bif (leI a30 (lenI a32))then (some (((3:Int),()),()))else bif (eqI r3.1.1 2)then (bif (eqI r4.1.1 3)then X10 else X12)else X12)else bif (eqI r3.1.1 2)then (bif (eqI r4.1.1 3)then X10 else X12)else X12)else bif (eqI r3.1.1 2)then (bif (eqI r4.1.1 3)then X10 else X12)else X12;let X18:R142:=bif (eqI r3.1.1 2)then (bif (eqI r4.1.1 3)then X15 else X14)else X14;bif (eqI r3.1.1 1)then (bif (eqI r4.1.1 2)then ((c105 (a0,())).bind fun r5=>bif (!r5.1.1)then (some (((1:Int),()),()))else bif (eqI r3.1.1 1)then (bif (eqI r4.1.1 3)then ((c106 (a0,())).bind fun r6=>bif (!r6.1.1)then (some (((2:Int),()),()))else bif (eqI r3.1.1 2)then (bif (eqI r4.1.1 2)then (bif (leI a30 (lenI a32))then (some (((3:Int),()),()))else X18)else X18)else X18)else X17)else X17)else X16)else X16
theorem s142 (c204:F204) (c203:F203) (c202:F202) (c105:F105) (c106:F106) (c205:F205) (c43:F43) (c206:F206) (c156:F156) (y):TE [g204 c204,g203 c203,g202 c202,g105 c105,g106 c106,g205 c205,g43 c43,g206 c206,g156 c156] Tryz.f142 i142 o142 y=m142 c204 c203 c202 c105 c106 c205 c43 c206 c156 y:=by kernel_rfl
noncomputable def r142:F142:=m142 r204 r203 r202 r105 r106 r205 r43 r206 r156
theorem k142:KO (g142 r142):=fk (s142 r204 r203 r202 r105 r106 r205 r43 r206 r156) ⟨k204,k203,k202,k105,k106,k205,k43,k206,k156,⟨⟩⟩ (by kernel_rfl)
abbrev i36:Ts:=[.a q8]
abbrev o36:Ts:=[.v (.int .i64)]
abbrev F36:=FT i36 o36
abbrev g36:=mkG 36 i36 o36
noncomputable def m36 (c142:F142) (c34:F34) (y:PTup i36):Option (PTup o36×BTup i36):=
  (c34 (y.1,())).bind fun r0=>
  bif (!r0.1.1)then (some (((6:Int),()),()))
  else (c142 (y.1,())).bind fun r1=>
  some (r1.1,())
theorem s36 (c142:F142) (c34:F34) (y):TE [g142 c142,g34 c34] Tryz.f36 i36 o36 y=m36 c142 c34 y:=by kernel_rfl
noncomputable def r36:F36:=m36 r142 r34
theorem k36:KO (g36 r36):=fk (s36 r142 r34) ⟨k142,k34,⟨⟩⟩ (by kernel_rfl)
abbrev i37:Ts:=[.a q8]
abbrev o37:Ts:=[.v (.int .i64)]
abbrev F37:=FT i37 o37
abbrev g37:=mkG 37 i37 o37
noncomputable def m37 (c29:F29) (c143:F143) (y:PTup i37):Option (PTup o37×BTup i37):=
  (c29 (y.1,())).bind fun r0=>
  bif (!r0.1.1)then (some (((6:Int),()),()))
  else (c143 (y.1,())).bind fun r1=>
  some (r1.1,())
theorem s37 (c29:F29) (c143:F143) (y):TE [g29 c29,g143 c143] Tryz.f37 i37 o37 y=m37 c29 c143 y:=by kernel_rfl
noncomputable def r37:F37:=m37 r29 r143
theorem k37:KO (g37 r37):=fk (s37 r29 r143) ⟨k29,k143,⟨⟩⟩ (by kernel_rfl)
abbrev i6:Ts:=[.v (.sl false .b)]
abbrev o6:Ts:=[.v (.bool)]
abbrev F6:=FT i6 o6
abbrev g6:=mkG 6 i6 o6
noncomputable def m6 (c31:F31) (c36:F36) (c20:F20) (c35:F35) (c29:F29) (c37:F37) (y:PTup i6):Option (PTup o6×BTup i6):=
  (c20 y).bind fun r0=>
  bif r0.1.1 then (some ((true,()),()))
  else (c35 y).bind fun r1=>
  (c31 (r1.1.1,())).bind fun r2=>
  (c36 (r2.1.1,())).bind fun r3=>
  (c37 (r2.1.1,())).bind fun r4=>
  bif (neI r3.1.1 r4.1.1)then no
  else bif (eqI r3.1.1 0)then (some ((true,()),()))
  else bif (eqI r3.1.1 5)then (some ((true,()),()))
  else bif (eqI r3.1.1 6)then ((c29 (r2.1.1,())).bind fun r5=>
   some (((!r5.1.1),()),()))
  else no
theorem s6 (c31:F31) (c36:F36) (c20:F20) (c35:F35) (c29:F29) (c37:F37) (y):TE [g31 c31,g36 c36,g20 c20,g35 c35,g29 c29,g37 c37] Tryz.f6 i6 o6 y=m6 c31 c36 c20 c35 c29 c37 y:=by kernel_rfl
noncomputable def r6:F6:=m6 r31 r36 r20 r35 r29 r37
theorem k6:KO (g6 r6):=fk (s6 r31 r36 r20 r35 r29 r37) ⟨k31,k36,k20,k35,k29,k37,⟨⟩⟩ (by kernel_rfl)
end Go.Proofs.YtgeodknaigdenaaGreat.Plain
