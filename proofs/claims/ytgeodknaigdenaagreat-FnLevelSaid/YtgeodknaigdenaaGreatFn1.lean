/- Plain functions that the program's functions answer as; their contracts. Printed by a program of the proofs' writer. No condition. -/
import Derived.Test.YtgeodknaigdenaaGreatW5
import Derived.KernelRfl
import Derived.Test.YtgeodknaigdenaaGreatFn0
set_option linter.unusedVariables false
set_option linter.unusedSimpArgs false
set_option maxRecDepth 100000
namespace Go.Proofs.YtgeodknaigdenaaGreat.Plain
open Go Go.Tev
abbrev i266:Ts:=[.v (.int .i64)]
abbrev o266:Ts:=[.v (.int .i64)]
abbrev F266:=FT i266 o266
abbrev g266:=mkG 266 i266 o266
noncomputable def m266 (y:PTup i266):Option (PTup o266×BTup i266):=
  some (((bAnd Go.IntKind.i64 y.1 (255:Int)),()),())
theorem s266 (y):TE [] Tryz.f266 i266 o266 y=m266 y:=by kernel_rfl
noncomputable def r266:F266:=m266
theorem k266:KO (g266 r266):=fk (s266) trivial (by kernel_rfl)
abbrev i325:Ts:=[.p q3]
abbrev o325:Ts:=[]
abbrev F325:=FT i325 o325
abbrev g325:=mkG 325 i325 o325
noncomputable def m325 (y:PTup i325):Option (PTup o325×BTup i325):=
  some ((),((y.1.1,(y.1.2.1,(y.1.2.2.1,((Int.tmod (wI (y.1.2.2.2.1+1)) (16:Int)),y.1.2.2.2.2)))),()))
theorem s325 (y):TE [] Tryz.f325 i325 o325 y=m325 y:=by kernel_rfl
noncomputable def r325:F325:=m325
theorem k325:KO (g325 r325):=fk (s325) trivial (by kernel_rfl)
abbrev i298:Ts:=[.p [.int .i64, .int .i64, .int .i64, .int .i64, .int .i64, .bool, .sl true .i, .sl false .i], .v (.int .i64), .v (.int .i64)]
abbrev o298:Ts:=[]
abbrev F298:=FT i298 o298
abbrev g298:=mkG 298 i298 o298
noncomputable def m298 (c325:F325) (c266:F266) (y:PTup i298):Option (PTup o298×BTup i298):=
  (c266 y.2.2).bind fun r0=>
  bif (eqI y.2.1 0)then (some ((),((y.1.1,(r0.1.1,y.1.2.2)),())))
  else bif (eqI y.2.1 1)then (some ((),((y.1.1,(y.1.2.1,(r0.1.1,y.1.2.2.2))),())))
  else bif (eqI y.2.1 3)then (some ((),((y.1.1,(y.1.2.1,(y.1.2.2.1,((Int.tmod r0.1.1 16),y.1.2.2.2.2)))),())))
  else bif (eqI y.2.1 4)then (bif (leI 0 y.1.2.2.2.1)then (bif (ltI y.1.2.2.2.1 (lenI y.1.2.2.2.2.2.2.1))then ((c325 ((y.1.1,(y.1.2.1,(y.1.2.2.1,(y.1.2.2.2.1,(y.1.2.2.2.2.1,(y.1.2.2.2.2.2.1,((List.set y.1.2.2.2.2.2.2.1 (Int.toNat y.1.2.2.2.1) (Int.tmod r0.1.1 64)),y.1.2.2.2.2.2.2.2))))))),())).bind fun r1=>
     some ((),((r1.2.1.1,(r1.2.1.2.1,(r1.2.1.2.2.1,(r1.2.1.2.2.2.1,(r1.2.1.2.2.2.2.1,(r1.2.1.2.2.2.2.2.1,((List.set y.1.2.2.2.2.2.2.1 (Int.toNat y.1.2.2.2.1) (Int.tmod r0.1.1 64)),y.1.2.2.2.2.2.2.2))))))),())))
    else none)
   else none)
  else bif (eqI y.2.1 5)then (some ((),((y.1.1,(y.1.2.1,(y.1.2.2.1,(y.1.2.2.2.1,((Int.tmod r0.1.1 64),y.1.2.2.2.2.2))))),())))
  else some ((),(y.1,()))
theorem s298 (c325:F325) (c266:F266) (y):TE [g325 c325,g266 c266] Tryz.f298 i298 o298 y=m298 c325 c266 y:=by kernel_rfl
noncomputable def r298:F298:=m298 r325 r266
theorem k298:KO (g298 r298):=fk (s298 r325 r266) ⟨k325,k266,⟨⟩⟩ (by kernel_rfl)
abbrev i299:Ts:=[.a q6, .v (.int .i64), .v (.int .i64)]
abbrev o299:Ts:=[.a q6]
abbrev F299:=FT i299 o299
abbrev g299:=mkG 299 i299 o299
noncomputable def m299 (c150:F150) (c266:F266) (y:PTup i299):Option (PTup o299×BTup i299):=
  (c150 (y.1,())).bind fun r0=>
  bif (!r0.1.1)then (some ((y.1,()),()))
  else (c266 y.2.2).bind fun r1=>
  bif (eqI y.2.1 0)then (some (((y.1.1,(r1.1.1,y.1.2.2)),()),()))
  else bif (eqI y.2.1 1)then (some (((y.1.1,(y.1.2.1,(y.1.2.2.1,(y.1.2.2.2.1,((Int.tmod r1.1.1 32),y.1.2.2.2.2.2))))),()),()))
  else bif (eqI y.2.1 2)then (bif y.1.2.2.2.2.2.2.1 then (some (((y.1.1,(y.1.2.1,(y.1.2.2.1,(y.1.2.2.2.1,(y.1.2.2.2.2.1,((eqI (Int.tmod r1.1.1 2) (1:Int)),((eqI (Int.tmod r1.1.1 2) (1:Int)),()))))))),()),()))
   else some (((y.1.1,(y.1.2.1,(y.1.2.2.1,(y.1.2.2.2.1,(y.1.2.2.2.2.1,((eqI (Int.tmod r1.1.1 2) (1:Int)),(false,()))))))),()),()))
  else bif (eqI y.2.1 3)then (some (((y.1.1,(y.1.2.1,(y.1.2.2.1,(y.1.2.2.2.1,(y.1.2.2.2.2.1,(y.1.2.2.2.2.2.1,(false,()))))))),()),()))
  else some ((y.1,()),())
theorem s299 (c150:F150) (c266:F266) (y):TE [g150 c150,g266 c266] Tryz.f299 i299 o299 y=m299 c150 c266 y:=by kernel_rfl
noncomputable def r299:F299:=m299 r150 r266
theorem k299:KO (g299 r299):=fk (s299 r150 r266) ⟨k150,k266,⟨⟩⟩ (by kernel_rfl)
abbrev i318:Ts:=[.r q3, .v (.int .i64)]
abbrev o318:Ts:=[.v (.int .i64)]
abbrev F318:=FT i318 o318
abbrev g318:=mkG 318 i318 o318
noncomputable def m318 (y:PTup i318):Option (PTup o318×BTup i318):=
  bif (leI 0 (Int.tmod (wI ((wI ((Int.tmod y.2.1 8)+y.1.2.2.1))+(wI (Int.tdiv y.2.1 8)))) (16:Int)))then (bif (ltI (Int.tmod (wI ((wI ((Int.tmod y.2.1 8)+y.1.2.2.1))+(wI (Int.tdiv y.2.1 8)))) (16:Int)) (lenI y.1.2.2.2.2.2.2.1))then (some (((bXor Go.IntKind.i64 (rdE .i y.1.2.2.2.2.2.2.1 (Int.tmod (wI ((wI ((Int.tmod y.2.1 8)+y.1.2.2.1))+(wI (Int.tdiv y.2.1 8)))) (16:Int))) y.1.2.2.2.2.1),()),()))
   else none)
  else none
theorem s318 (y):TE [] Tryz.f318 i318 o318 y=m318 y:=by kernel_rfl
noncomputable def r318:F318:=m318
theorem k318:KO (g318 r318):=fk (s318) trivial (by kernel_rfl)
abbrev i277:Ts:=[.p [.int .i64, .int .i64, .int .i64, .int .i64, .int .i64, .bool, .sl false .i, .sl true .i]]
abbrev o277:Ts:=[.v (.bool), .v (.sl true .i), .v (.bool)]
abbrev F277:=FT i277 o277
abbrev g277:=mkG 277 i277 o277
noncomputable def m277 (c318:F318) (y:PTup i277):Option (PTup o277×BTup i277):=
  bif (ltI (Int.tmod y.1.1 64) (48:Int))then ((c318 (((wI (y.1.1+1)),y.1.2),((Int.tmod y.1.1 64),()))).bind fun r0=>
   bif (leN ((List.length y.1.2.2.2.2.2.2.2.1)+(List.length (r0.1.1::[]))) (E.most .i))then (some ((false,([],(false,()))),(((wI (y.1.1+1)),(y.1.2.1,(y.1.2.2.1,(y.1.2.2.2.1,(y.1.2.2.2.2.1,(y.1.2.2.2.2.2.1,(y.1.2.2.2.2.2.2.1,((y.1.2.2.2.2.2.2.2.1++(r0.1.1::[])),())))))))),())))
   else none)
  else bif (eqI (Int.tmod y.1.1 64) (48:Int))then (some ((true,(y.1.2.2.2.2.2.2.2.1,((ltI 127 y.1.2.1),()))),(((wI (y.1.1+1)),(y.1.2.1,(y.1.2.2.1,(y.1.2.2.2.1,(y.1.2.2.2.2.1,(true,(y.1.2.2.2.2.2.2.1,([],())))))))),())))
  else bif (eqI (Int.tmod y.1.1 64) (63:Int))then (some ((false,([],(false,()))),(((wI (y.1.1+1)),(y.1.2.1,(y.1.2.2.1,(y.1.2.2.2.1,(y.1.2.2.2.2.1,(false,y.1.2.2.2.2.2.2)))))),())))
  else some ((false,([],(false,()))),(((wI (y.1.1+1)),y.1.2),()))
theorem s277 (c318:F318) (y):TE [g318 c318] Tryz.f277 i277 o277 y=m277 c318 y:=by kernel_rfl
noncomputable def r277:F277:=m277 r318
theorem k277:KO (g277 r277):=fk (s277 r318) ⟨k318,⟨⟩⟩ (by kernel_rfl)
abbrev i278:Ts:=[.p q6]
abbrev o278:Ts:=[.v (.int .i64), .v (.bool)]
abbrev R278:=Option (PTup o278×BTup i278)
abbrev F278:=PTup i278→R278
abbrev g278:=mkG 278 i278 o278
noncomputable def m278 (y:PTup i278):R278:=
  let a0:=y.1;let a1:=a0.1;let a2:=a0.2;let a3:=a2.1;let a4:=a2.2;let a5:=a4.1;let a6:=a4.2;let a7:=a6.1;let a8:=a6.2;let a9:=a8.1;let a10:=a8.2;let a11:=a10.1;let X0:R278:=bif (! (eqI (Int.tmod a1 16) (15:Int)))then (some (((0:Int),((eqI (Int.tmod a1 16) (15:Int)),())),(((wI (a1+1)),(a3,(a3,((wI ((1:Int)-a7)),a8)))),())))else bif (eqI a9 0)then (some (((0:Int),((eqI (Int.tmod a1 16) (15:Int)),())),(((wI (a1+1)),(a3,(a3,((wI ((1:Int)-a7)),a8)))),())))else some (((wI ((8:Int)*(wI ((1:Int)-a7)))),(true,())),(((wI (a1+1)),(a3,(a3,((wI ((1:Int)-a7)),a8)))),()));let X1:R278:=bif (! (eqI (Int.tmod a1 16) (15:Int)))then (some (((0:Int),((eqI (Int.tmod a1 16) (15:Int)),())),(((wI (a1+1)),(a3,((wI (a5-1)),a6))),())))else bif (eqI a9 0)then (some (((0:Int),((eqI (Int.tmod a1 16) (15:Int)),())),(((wI (a1+1)),(a3,((wI (a5-1)),a6))),())))else some (((wI ((8:Int)*a7)),(true,())),(((wI (a1+1)),(a3,((wI (a5-1)),a6))),()));let X2:R278:=bif (! (eqI (Int.tmod a1 16) (15:Int)))then (some (((0:Int),((eqI (Int.tmod a1 16) (15:Int)),())),(((wI (a1+1)),(a3,(a3,a6))),())))else bif (eqI a9 0)then (some (((0:Int),((eqI (Int.tmod a1 16) (15:Int)),())),(((wI (a1+1)),(a3,(a3,a6))),())))else some (((wI ((8:Int)*a7)),(true,())),(((wI (a1+1)),(a3,(a3,a6))),()));let X3:R278:=some (((0:Int),((eqI (Int.tmod a1 16) (15:Int)),())),(((wI (a1+1)),(a3,((wI (a5-1)),(a7,((wI (a9-1)),(a11,(a11,()))))))),()));let X4:R278:=some (((0:Int),((eqI (Int.tmod a1 16) (15:Int)),())),(((wI (a1+1)),(a3,(a3,((wI ((1:Int)-a7)),((wI (a9-1)),(a11,(a11,()))))))),()));let X5:R278:=some (((0:Int),((eqI (Int.tmod a1 16) (15:Int)),())),(((wI (a1+1)),(a3,((wI (a5-1)),(a7,((wI (a9-1)),(a11,(false,()))))))),()));let X6:R278:=some (((0:Int),((eqI (Int.tmod a1 16) (15:Int)),())),(((wI (a1+1)),(a3,((wI (a5-1)),(a7,((wI (a9-1)),(a11,(true,()))))))),()));let X7:R278:=some (((0:Int),((eqI (Int.tmod a1 16) (15:Int)),())),(((wI (a1+1)),(a3,(a3,((wI ((1:Int)-a7)),((wI (a9-1)),(a11,(false,()))))))),()));let X8:R278:=some (((0:Int),((eqI (Int.tmod a1 16) (15:Int)),())),(((wI (a1+1)),(a3,(a3,((wI ((1:Int)-a7)),((wI (a9-1)),(a11,(true,()))))))),()));let X9:R278:=some (((0:Int),((eqI (Int.tmod a1 16) (15:Int)),())),(((wI (a1+1)),(a3,(a3,(a7,((wI (a9-1)),(a11,(a11,()))))))),()));let X10:R278:=some (((0:Int),((eqI (Int.tmod a1 16) (15:Int)),())),(((wI (a1+1)),(a3,(a3,(a7,((wI (a9-1)),(a11,(false,()))))))),()));let X11:R278:=some (((0:Int),((eqI (Int.tmod a1 16) (15:Int)),())),(((wI (a1+1)),(a3,(a3,(a7,((wI (a9-1)),(a11,(true,()))))))),()));bif (eqI a5 0)then (bif (ltI 0 a9)then (bif (eqI (Int.tmod a1 32) (0:Int))then (bif (ltI 0 a9)then (bif a10.2.1 then (bif (! (eqI (Int.tmod a1 16) (15:Int)))then X8 else bif (eqI (wI (a9-1)) (0:Int))then X8 else some (((wI ((8:Int)*(wI ((1:Int)-a7)))),(true,())),(((wI (a1+1)),(a3,(a3,((wI ((1:Int)-a7)),((wI (a9-1)),(a11,(true,()))))))),())))else bif (eqI (wI (a9-1)) (0:Int))then (bif (! (eqI (Int.tmod a1 16) (15:Int)))then X4 else bif (eqI (wI (a9-1)) (0:Int))then X4 else some (((wI ((8:Int)*(wI ((1:Int)-a7)))),(true,())),(((wI (a1+1)),(a3,(a3,((wI ((1:Int)-a7)),((wI (a9-1)),(a11,(a11,()))))))),())))else bif (! (eqI (Int.tmod a1 16) (15:Int)))then X7 else bif (eqI (wI (a9-1)) (0:Int))then X7 else some (((wI ((8:Int)*(wI ((1:Int)-a7)))),(true,())),(((wI (a1+1)),(a3,(a3,((wI ((1:Int)-a7)),((wI (a9-1)),(a11,(false,()))))))),())))else X0)else X0)else bif (eqI (Int.tmod a1 32) (0:Int))then (bif (ltI 0 a9)then (bif a10.2.1 then (bif (! (eqI (Int.tmod a1 16) (15:Int)))then X11 else bif (eqI (wI (a9-1)) (0:Int))then X11 else some (((wI ((8:Int)*a7)),(true,())),(((wI (a1+1)),(a3,(a3,(a7,((wI (a9-1)),(a11,(true,()))))))),())))else bif (eqI (wI (a9-1)) (0:Int))then (bif (! (eqI (Int.tmod a1 16) (15:Int)))then X9 else bif (eqI (wI (a9-1)) (0:Int))then X9 else some (((wI ((8:Int)*a7)),(true,())),(((wI (a1+1)),(a3,(a3,(a7,((wI (a9-1)),(a11,(a11,()))))))),())))else bif (! (eqI (Int.tmod a1 16) (15:Int)))then X10 else bif (eqI (wI (a9-1)) (0:Int))then X10 else some (((wI ((8:Int)*a7)),(true,())),(((wI (a1+1)),(a3,(a3,(a7,((wI (a9-1)),(a11,(false,()))))))),())))else X2)else X2)else bif (eqI (Int.tmod a1 32) (0:Int))then (bif (ltI 0 a9)then (bif a10.2.1 then (bif (! (eqI (Int.tmod a1 16) (15:Int)))then X6 else bif (eqI (wI (a9-1)) (0:Int))then X6 else some (((wI ((8:Int)*a7)),(true,())),(((wI (a1+1)),(a3,((wI (a5-1)),(a7,((wI (a9-1)),(a11,(true,()))))))),())))else bif (eqI (wI (a9-1)) (0:Int))then (bif (! (eqI (Int.tmod a1 16) (15:Int)))then X3 else bif (eqI (wI (a9-1)) (0:Int))then X3 else some (((wI ((8:Int)*a7)),(true,())),(((wI (a1+1)),(a3,((wI (a5-1)),(a7,((wI (a9-1)),(a11,(a11,()))))))),())))else bif (! (eqI (Int.tmod a1 16) (15:Int)))then X5 else bif (eqI (wI (a9-1)) (0:Int))then X5 else some (((wI ((8:Int)*a7)),(true,())),(((wI (a1+1)),(a3,((wI (a5-1)),(a7,((wI (a9-1)),(a11,(false,()))))))),())))else X1)else X1
theorem s278 (y):TE [] Tryz.f278 i278 o278 y=m278 y:=by kernel_rfl
noncomputable def r278:F278:=m278
theorem k278:KO (g278 r278):=fk (s278) trivial (by kernel_rfl)
abbrev i131:Ts:=[.a q5, .v (.int .i64)]
abbrev o131:Ts:=[.a q14]
abbrev F131:=FT i131 o131
abbrev g131:=mkG 131 i131 o131
abbrev lc131_0:Ts:=[.v (.int .i64)]
abbrev lb131_0:Ts:=[.p q14]
abbrev lv131_0:Ts:=[.v (.bool)]
abbrev lr131_0:Ts:=[]
abbrev R131_0:=Option (Sum (PTup lv131_0) (PTup lr131_0)×BTup lb131_0)
abbrev B131_0:=PTup lb131_0→PTup lv131_0→R131_0
abbrev A131_0:=PTup lc131_0→B131_0
noncomputable def w131_0 (c122:F122) (c163:F163) (c197:F197) (again:B131_0) (x:PTup lc131_0) (y:PTup lb131_0) (z:PTup lv131_0):R131_0:=
  bif z.1 then ((c163 (y.1,x)).bind fun r0=>
   again (r0.1.1,()) r0.1.2)
  else some ((Sum.inl z),(y.1,()))
noncomputable def e131_0 (l:A131_0):LoopE:=⟨[1],lc131_0,[5],lb131_0,[6],lv131_0,[],lr131_0,0,[],l⟩
noncomputable def m131 (c122:F122) (c163:F163) (c197:F197) (l0:A131_0) (y:PTup i131):Option (PTup o131×BTup i131):=
  (c122 (y.1,())).bind fun r0=>
  bif (!r0.1.1)then (some ((((0:Int),((0:Int),((0:Int),((0:Int),((0:Int),(false,([],([],((0:Int),([],([],()))))))))))),()),()))
  else (c197 (y.1,())).bind fun r1=>
  (l0 y.2 (r1.1.1,()) (true,())).bind fun r2=>
  sumElim r2.1 (fun r3=>some ((r2.2.1,()),()))
  (fun r3=>some ((((0:Int),((0:Int),((0:Int),((0:Int),((0:Int),(false,([],([],((0:Int),([],([],()))))))))))),()),()))
noncomputable def E131 (c122:F122) (c163:F163) (c197:F197) (l0:A131_0):CEnv:=⟨⟨Tryz.prog,fnsL [g122 c122,g163 c163,g197 c197]⟩,loopsL [(5,e131_0 l0)]⟩
theorem t131_0 (c122:F122) (c163:F163) (c197:F197) (l0:A131_0) (again) (x y z):loopRound (E131 c122 c163 c197 l0) (loopAt (bodyOf Tryz.f131) 0) (e131_0 l0) Tryz.f131.ntmps again x y z=w131_0 c122 c163 c197 again x y z:=by kernel_rfl
noncomputable def n131_0 (c122:F122) (c163:F163) (c197:F197):Nat→A131_0
  |0,_,_,_=>none
  |n+1,x,y,z=>w131_0 c122 c163 c197 (fun y z=>n131_0 c122 c163 c197 n x y z) x y z
theorem s131 (c122:F122) (c163:F163) (c197:F197) (l0:A131_0) (y):tevF (E131 c122 c163 c197 l0) Tryz.f131 i131 o131 y=m131 c122 c163 c197 l0 y:=by kernel_rfl
noncomputable def L131_0:A131_0:=n131_0 r122 r163 r197 fuel
noncomputable def r131:F131:=m131 r122 r163 r197 L131_0
theorem k131:KO (g131 r131):=by
  have hE: ∀g f,(E131 r122 r163 r197 L131_0).env.fns g=some f→CallOk Tryz.prog g f:=fnsL_ok ⟨k122,k163,k197,⟨⟩⟩
  have h0:LoopOk Tryz.prog Tryz.f131.ntmps (loopAt (bodyOf Tryz.f131) 0) (e131_0 L131_0):=lp_ok (E:=E131 r122 r163 r197 L131_0) rfl hE mixed (AllLoops.of_list (l:=[]) (by kernel_rfl) trivial) (n131_0 r122 r163 r197) (fun _ _ _=>rfl) (fun n x y z=>t131_0 r122 r163 r197 L131_0 _ x y z) rfl
  exact fn_ok (E:=E131 r122 r163 r197 L131_0) rfl hE mixed (by kernel_rfl) (by kernel_rfl) (AllLoops.of_list (l:=[(loopAt (bodyOf Tryz.f131) 0)]) (by kernel_rfl) (.one (by kernel_rfl) h0 trivial)) (s131 r122 r163 r197 L131_0)
abbrev i132:Ts:=[.a q7, .v (.int .i64)]
abbrev o132:Ts:=[.a q15]
abbrev F132:=FT i132 o132
abbrev g132:=mkG 132 i132 o132
abbrev lc132_0:Ts:=[.v (.int .i64)]
abbrev lb132_0:Ts:=[.p q15]
abbrev lv132_0:Ts:=[.v (.bool)]
abbrev lr132_0:Ts:=[]
abbrev R132_0:=Option (Sum (PTup lv132_0) (PTup lr132_0)×BTup lb132_0)
abbrev B132_0:=PTup lb132_0→PTup lv132_0→R132_0
abbrev A132_0:=PTup lc132_0→B132_0
noncomputable def w132_0 (c123:F123) (c164:F164) (c198:F198) (again:B132_0) (x:PTup lc132_0) (y:PTup lb132_0) (z:PTup lv132_0):R132_0:=
  bif z.1 then ((c164 (y.1,x)).bind fun r0=>
   again (r0.1.1,()) r0.1.2)
  else some ((Sum.inl z),(y.1,()))
noncomputable def e132_0 (l:A132_0):LoopE:=⟨[1],lc132_0,[5],lb132_0,[6],lv132_0,[],lr132_0,0,[],l⟩
noncomputable def m132 (c123:F123) (c164:F164) (c198:F198) (l0:A132_0) (y:PTup i132):Option (PTup o132×BTup i132):=
  (c123 (y.1,())).bind fun r0=>
  bif (!r0.1.1)then (some ((((0:Int),((0:Int),((0:Int),((0:Int),((0:Int),(false,(false,((0:Int),([],([],())))))))))),()),()))
  else (c198 (y.1,())).bind fun r1=>
  (l0 y.2 (r1.1.1,()) (true,())).bind fun r2=>
  sumElim r2.1 (fun r3=>some ((r2.2.1,()),()))
  (fun r3=>some ((((0:Int),((0:Int),((0:Int),((0:Int),((0:Int),(false,(false,((0:Int),([],([],())))))))))),()),()))
noncomputable def E132 (c123:F123) (c164:F164) (c198:F198) (l0:A132_0):CEnv:=⟨⟨Tryz.prog,fnsL [g123 c123,g164 c164,g198 c198]⟩,loopsL [(5,e132_0 l0)]⟩
theorem t132_0 (c123:F123) (c164:F164) (c198:F198) (l0:A132_0) (again) (x y z):loopRound (E132 c123 c164 c198 l0) (loopAt (bodyOf Tryz.f132) 0) (e132_0 l0) Tryz.f132.ntmps again x y z=w132_0 c123 c164 c198 again x y z:=by kernel_rfl
noncomputable def n132_0 (c123:F123) (c164:F164) (c198:F198):Nat→A132_0
  |0,_,_,_=>none
  |n+1,x,y,z=>w132_0 c123 c164 c198 (fun y z=>n132_0 c123 c164 c198 n x y z) x y z
theorem s132 (c123:F123) (c164:F164) (c198:F198) (l0:A132_0) (y):tevF (E132 c123 c164 c198 l0) Tryz.f132 i132 o132 y=m132 c123 c164 c198 l0 y:=by kernel_rfl
noncomputable def L132_0:A132_0:=n132_0 r123 r164 r198 fuel
noncomputable def r132:F132:=m132 r123 r164 r198 L132_0
theorem k132:KO (g132 r132):=by
  have hE: ∀g f,(E132 r123 r164 r198 L132_0).env.fns g=some f→CallOk Tryz.prog g f:=fnsL_ok ⟨k123,k164,k198,⟨⟩⟩
  have h0:LoopOk Tryz.prog Tryz.f132.ntmps (loopAt (bodyOf Tryz.f132) 0) (e132_0 L132_0):=lp_ok (E:=E132 r123 r164 r198 L132_0) rfl hE mixed (AllLoops.of_list (l:=[]) (by kernel_rfl) trivial) (n132_0 r123 r164 r198) (fun _ _ _=>rfl) (fun n x y z=>t132_0 r123 r164 r198 L132_0 _ x y z) rfl
  exact fn_ok (E:=E132 r123 r164 r198 L132_0) rfl hE mixed (by kernel_rfl) (by kernel_rfl) (AllLoops.of_list (l:=[(loopAt (bodyOf Tryz.f132) 0)]) (by kernel_rfl) (.one (by kernel_rfl) h0 trivial)) (s132 r123 r164 r198 L132_0)
abbrev i33:Ts:=[.a q8]
abbrev o33:Ts:=[.a q13]
abbrev F33:=FT i33 o33
abbrev g33:=mkG 33 i33 o33
noncomputable def m33 (c131:F131) (c132:F132) (c29:F29) (c130:F130) (y:PTup i33):Option (PTup o33×BTup i33):=
  let a0:=y.1;let a1:=a0.2;let a2:=a1.2;let a3:=a2.2;let a4:=a3.2;let a5:=a4.2;let a6:=a5.2;let a7:=a6.2;let a8:=a7.2;let a9:=a8.2;let a10:=a9.2.2;let a11:=a10.2;let a12:=a11.2;let a13:=a12.2;let a14:=a13.2;let a15:=a14.2;let a16:=a15.2;let a17:=a16.2;let a18:=a17.2;let a19:=a18.2;let a20:=a19.2;let a21:=a20.2;let a22:=a21.2;let a23:=a22.2.2;let a24:=a23.2.2;(c130 (a0,())).bind fun r0=>let b0:=r0.1;let b1:=b0.1;let b2:=b1.2;let b3:=b2.2;let b4:=b3.2;let b5:=b4.2;let b6:=b5.2;let b7:=b6.2;let b8:=b7.2;let b9:=b8.2;let b10:=b9.2.2;let b11:=b10.2;let b12:=b11.2.2;let b13:=b12.2.2;(c29 (a0,())).bind fun r1=>
  bif (!r1.1.1)then (some ((b1,()),()))
  else (c131 ((a20.1,(a21.1,(a22.1,(a22.2.1,(a23.1,(a23.2.1,(a24.1,(a24.2.1,(a24.2.2.1,(a24.2.2.2.1,(a24.2.2.2.2.1,()))))))))))),(a13.1,()))).bind fun r2=>
  (c132 (a24.2.2.2.2.2,(a13.1,()))).bind fun r3=>
  some (((b1.1,(b2.1,(b3.1,(b4.1,(b5.1,(b6.1,(b7.1,(b8.1,(b9.1,(b9.2.1,(b10.1,(b11.1,(b11.2.1,(b12.1,(b12.2.1,(b13.1,(b13.2.1,(b13.2.2.1,(b13.2.2.2.1,(b13.2.2.2.2.1,(b13.2.2.2.2.2.1,(r2.1.1.1,(r2.1.1.2.1,(r2.1.1.2.2.1,(r2.1.1.2.2.2.1,(r2.1.1.2.2.2.2.1,(r2.1.1.2.2.2.2.2.1,(r2.1.1.2.2.2.2.2.2.1,(r2.1.1.2.2.2.2.2.2.2.1,(r2.1.1.2.2.2.2.2.2.2.2.1,(r2.1.1.2.2.2.2.2.2.2.2.2.1,(r2.1.1.2.2.2.2.2.2.2.2.2.2.1,r3.1.1)))))))))))))))))))))))))))))))),()),())
theorem s33 (c131:F131) (c132:F132) (c29:F29) (c130:F130) (y):TE [g131 c131,g132 c132,g29 c29,g130 c130] Tryz.f33 i33 o33 y=m33 c131 c132 c29 c130 y:=by kernel_rfl
noncomputable def r33:F33:=m33 r131 r132 r29 r130
theorem k33:KO (g33 r33):=fk (s33 r131 r132 r29 r130) ⟨k131,k132,k29,k130,⟨⟩⟩ (by kernel_rfl)
abbrev i30:Ts:=[.v (.sl false .b)]
abbrev o30:Ts:=[.a q13]
abbrev F30:=FT i30 o30
abbrev g30:=mkG 30 i30 o30
noncomputable def m30 (c103:F103) (c102:F102) (y:PTup i30):Option (PTup o30×BTup i30):=
  (c102 y).bind fun r0=>
  (c103 (r0.1.1,())).bind fun r1=>
  some ((r1.1.1,()),())
theorem s30 (c103:F103) (c102:F102) (y):TE [g103 c103,g102 c102] Tryz.f30 i30 o30 y=m30 c103 c102 y:=by kernel_rfl
noncomputable def r30:F30:=m30 r103 r102
theorem k30:KO (g30 r30):=fk (s30 r103 r102) ⟨k103,k102,⟨⟩⟩ (by kernel_rfl)
abbrev i297:Ts:=[.p [.int .i64, .sl true .t], .v (.int .i64)]
abbrev o297:Ts:=[.a [.int .i64, .int .i64, .int .i64], .v (.bool)]
abbrev F297:=FT i297 o297
abbrev g297:=mkG 297 i297 o297
noncomputable def m297 (y:PTup i297):Option (PTup o297×BTup i297):=
  bif (eqI (lenI y.1.2.1) 0)then (some ((((0:Int),((0:Int),((0:Int),()))),(false,())),(y.1,())))
  else bif (ltI 0 (lenI y.1.2.1))then (bif (neI (rdE .t y.1.2.1 (0:Int)).1 y.2.1)then (some ((((0:Int),((0:Int),((0:Int),()))),(false,())),(y.1,())))
   else bif (ltI 0 (lenI y.1.2.1))then (bif (leI 1 (lenI y.1.2.1))then (some ((((rdE .t y.1.2.1 (0:Int)).1,((rdE .t y.1.2.1 (0:Int)).2.1,((rdE .t y.1.2.1 (0:Int)).2.2,()))),(true,())),((y.1.1,((List.drop (Int.toNat (1:Int)) y.1.2.1),())),())))
    else none)
   else none)
  else none
theorem s297 (y):TE [] Tryz.f297 i297 o297 y=m297 y:=by kernel_rfl
noncomputable def r297:F297:=m297
theorem k297:KO (g297 r297):=fk (s297) trivial (by kernel_rfl)
abbrev i239:Ts:=[.p q14, .v (.int .i64)]
abbrev o239:Ts:=[.v (.bool)]
abbrev F239:=FT i239 o239
abbrev g239:=mkG 239 i239 o239
noncomputable def m239 (c277:F277) (c298:F298) (c297:F297) (y:PTup i239):Option (PTup o239×BTup i239):=
  let a0:=y.1;let a1:=a0.2;let a2:=a1.2;let a3:=a2.2;let a4:=a3.2;let a5:=a4.2;let a6:=a5.2;let a7:=a6.2;let a8:=a7.2.2;(c297 ((a7.2.1,(a8.1,())),(a0.1,()))).bind fun r0=>
  bif r0.1.2.1 then ((c298 ((a0.1,(a1.1,(a2.1,(a3.1,(a4.1,(a5.1,(a6.1,(a7.1,())))))))),r0.1.1.2)).bind fun r1=>
   some ((true,()),((r1.2.1.1,(r1.2.1.2.1,(r1.2.1.2.2.1,(r1.2.1.2.2.2.1,(r1.2.1.2.2.2.2.1,(r1.2.1.2.2.2.2.2.1,(r1.2.1.2.2.2.2.2.2.1,(a7.1,(r0.2.1.1,(r0.2.1.2.1,a8.2)))))))))),())))
  else bif (leI (mnI y.2.1 (20000:Int)) a0.1)then (some ((false,()),((a0.1,(a1.1,(a2.1,(a3.1,(a4.1,(a5.1,(a6.1,(a7.1,(r0.2.1.1,(r0.2.1.2.1,a8.2)))))))))),())))
  else (c277 ((a0.1,(a1.1,(a2.1,(a3.1,(a4.1,(a5.1,(a6.1,(a7.1,())))))))),())).bind fun r1=>
  bif r1.1.1 then (bif (leN ((List.length a8.2.1)+(List.length (r1.1.2.1::[]))) (E.most .n))then (some ((true,()),((r1.2.1.1,(r1.2.1.2.1,(r1.2.1.2.2.1,(r1.2.1.2.2.2.1,(r1.2.1.2.2.2.2.1,(r1.2.1.2.2.2.2.2.1,(a6.1,(r1.2.1.2.2.2.2.2.2.2.1,(r0.2.1.1,(r0.2.1.2.1,((a8.2.1++(r1.1.2.1::[])),()))))))))))),())))
   else none)
  else some ((true,()),((r1.2.1.1,(r1.2.1.2.1,(r1.2.1.2.2.1,(r1.2.1.2.2.2.1,(r1.2.1.2.2.2.2.1,(r1.2.1.2.2.2.2.2.1,(a6.1,(r1.2.1.2.2.2.2.2.2.2.1,(r0.2.1.1,(r0.2.1.2.1,a8.2)))))))))),()))
theorem s239 (c277:F277) (c298:F298) (c297:F297) (y):TE [g277 c277,g298 c298,g297 c297] Tryz.f239 i239 o239 y=m239 c277 c298 c297 y:=by kernel_rfl
noncomputable def r239:F239:=m239 r277 r298 r297
theorem k239:KO (g239 r239):=fk (s239 r277 r298 r297) ⟨k277,k298,k297,⟨⟩⟩ (by kernel_rfl)
abbrev i195:Ts:=[.p q14, .v (.int .i64)]
abbrev o195:Ts:=[]
abbrev F195:=FT i195 o195
abbrev g195:=mkG 195 i195 o195
abbrev lc195_0:Ts:=[.v (.int .i64)]
abbrev lb195_0:Ts:=[.p q14]
abbrev lv195_0:Ts:=[]
abbrev lr195_0:Ts:=[]
abbrev R195_0:=Option (Sum (PTup lv195_0) (PTup lr195_0)×BTup lb195_0)
abbrev B195_0:=PTup lb195_0→PTup lv195_0→R195_0
abbrev A195_0:=PTup lc195_0→B195_0
noncomputable def w195_0 (c239:F239) (again:B195_0) (x:PTup lc195_0) (y:PTup lb195_0) (z:PTup lv195_0):R195_0:=
  (c239 (y.1,x)).bind fun r0=>
  bif r0.1.1 then (again (r0.2.1,()) ())
  else some ((Sum.inl ()),(r0.2.1,()))
noncomputable def e195_0 (l:A195_0):LoopE:=⟨[1],lc195_0,[0],lb195_0,[],lv195_0,[],lr195_0,0,[],l⟩
noncomputable def m195 (c239:F239) (l0:A195_0) (y:PTup i195):Option (PTup o195×BTup i195):=
  (l0 y.2 (y.1,()) ()).bind fun r0=>
  sumElim r0.1 (fun r1=>some ((),(r0.2.1,())))
  (fun r1=>some ((),(r0.2.1,())))
noncomputable def E195 (c239:F239) (l0:A195_0):CEnv:=⟨⟨Tryz.prog,fnsL [g239 c239]⟩,loopsL [(0,e195_0 l0)]⟩
theorem t195_0 (c239:F239) (l0:A195_0) (again) (x y z):loopRound (E195 c239 l0) (loopAt (bodyOf Tryz.f195) 0) (e195_0 l0) Tryz.f195.ntmps again x y z=w195_0 c239 again x y z:=by kernel_rfl
noncomputable def n195_0 (c239:F239):Nat→A195_0
  |0,_,_,_=>none
  |n+1,x,y,z=>w195_0 c239 (fun y z=>n195_0 c239 n x y z) x y z
theorem s195 (c239:F239) (l0:A195_0) (y):tevF (E195 c239 l0) Tryz.f195 i195 o195 y=m195 c239 l0 y:=by kernel_rfl
noncomputable def L195_0:A195_0:=n195_0 r239 fuel
noncomputable def r195:F195:=m195 r239 L195_0
theorem k195:KO (g195 r195):=by
  have hE: ∀g f,(E195 r239 L195_0).env.fns g=some f→CallOk Tryz.prog g f:=fnsL_ok ⟨k239,⟨⟩⟩
  have h0:LoopOk Tryz.prog Tryz.f195.ntmps (loopAt (bodyOf Tryz.f195) 0) (e195_0 L195_0):=lp_ok (E:=E195 r239 L195_0) rfl hE mixed (AllLoops.of_list (l:=[]) (by kernel_rfl) trivial) (n195_0 r239) (fun _ _ _=>rfl) (fun n x y z=>t195_0 r239 L195_0 _ x y z) rfl
  exact fn_ok (E:=E195 r239 L195_0) rfl hE mixed (by kernel_rfl) (by kernel_rfl) (AllLoops.of_list (l:=[(loopAt (bodyOf Tryz.f195) 0)]) (by kernel_rfl) (.one (by kernel_rfl) h0 trivial)) (s195 r239 L195_0)
abbrev i240:Ts:=[.p q15, .v (.int .i64)]
abbrev o240:Ts:=[.v (.bool)]
abbrev F240:=FT i240 o240
abbrev g240:=mkG 240 i240 o240
noncomputable def m240 (c278:F278) (c297:F297) (c299:F299) (y:PTup i240):Option (PTup o240×BTup i240):=
  (c297 ((y.1.2.2.2.2.2.2.2.1,(y.1.2.2.2.2.2.2.2.2.1,())),(y.1.1,()))).bind fun r0=>
  bif r0.1.2.1 then ((c299 ((y.1.1,(y.1.2.1,(y.1.2.2.1,(y.1.2.2.2.1,(y.1.2.2.2.2.1,(y.1.2.2.2.2.2.1,(y.1.2.2.2.2.2.2.1,()))))))),r0.1.1.2)).bind fun r1=>
   some ((true,()),((r1.1.1.1,(r1.1.1.2.1,(r1.1.1.2.2.1,(r1.1.1.2.2.2.1,(r1.1.1.2.2.2.2.1,(r1.1.1.2.2.2.2.2.1,(r1.1.1.2.2.2.2.2.2.1,(r0.2.1.1,(r0.2.1.2.1,y.1.2.2.2.2.2.2.2.2.2))))))))),())))
  else bif (leI (mnI y.2.1 (20000:Int)) y.1.1)then (some ((false,()),((y.1.1,(y.1.2.1,(y.1.2.2.1,(y.1.2.2.2.1,(y.1.2.2.2.2.1,(y.1.2.2.2.2.2.1,(y.1.2.2.2.2.2.2.1,(r0.2.1.1,(r0.2.1.2.1,y.1.2.2.2.2.2.2.2.2.2))))))))),())))
  else (c278 ((y.1.1,(y.1.2.1,(y.1.2.2.1,(y.1.2.2.2.1,(y.1.2.2.2.2.1,(y.1.2.2.2.2.2.1,(y.1.2.2.2.2.2.2.1,()))))))),())).bind fun r1=>
  bif r1.1.2.1 then (bif (leN ((List.length y.1.2.2.2.2.2.2.2.2.2.1)+(List.length (r1.1.1::[]))) (E.most .i))then (some ((true,()),((r1.2.1.1,(r1.2.1.2.1,(r1.2.1.2.2.1,(r1.2.1.2.2.2.1,(r1.2.1.2.2.2.2.1,(r1.2.1.2.2.2.2.2.1,(r1.2.1.2.2.2.2.2.2.1,(r0.2.1.1,(r0.2.1.2.1,((y.1.2.2.2.2.2.2.2.2.2.1++(r1.1.1::[])),())))))))))),())))
   else none)
  else some ((true,()),((r1.2.1.1,(r1.2.1.2.1,(r1.2.1.2.2.1,(r1.2.1.2.2.2.1,(r1.2.1.2.2.2.2.1,(r1.2.1.2.2.2.2.2.1,(r1.2.1.2.2.2.2.2.2.1,(r0.2.1.1,(r0.2.1.2.1,y.1.2.2.2.2.2.2.2.2.2))))))))),()))
theorem s240 (c278:F278) (c297:F297) (c299:F299) (y):TE [g278 c278,g297 c297,g299 c299] Tryz.f240 i240 o240 y=m240 c278 c297 c299 y:=by kernel_rfl
noncomputable def r240:F240:=m240 r278 r297 r299
theorem k240:KO (g240 r240):=fk (s240 r278 r297 r299) ⟨k278,k297,k299,⟨⟩⟩ (by kernel_rfl)
abbrev i196:Ts:=[.p q15, .v (.int .i64)]
abbrev o196:Ts:=[]
abbrev F196:=FT i196 o196
abbrev g196:=mkG 196 i196 o196
abbrev lc196_0:Ts:=[.v (.int .i64)]
abbrev lb196_0:Ts:=[.p q15]
abbrev lv196_0:Ts:=[]
abbrev lr196_0:Ts:=[]
abbrev R196_0:=Option (Sum (PTup lv196_0) (PTup lr196_0)×BTup lb196_0)
abbrev B196_0:=PTup lb196_0→PTup lv196_0→R196_0
abbrev A196_0:=PTup lc196_0→B196_0
noncomputable def w196_0 (c240:F240) (again:B196_0) (x:PTup lc196_0) (y:PTup lb196_0) (z:PTup lv196_0):R196_0:=
  (c240 (y.1,x)).bind fun r0=>
  bif r0.1.1 then (again (r0.2.1,()) ())
  else some ((Sum.inl ()),(r0.2.1,()))
noncomputable def e196_0 (l:A196_0):LoopE:=⟨[1],lc196_0,[0],lb196_0,[],lv196_0,[],lr196_0,0,[],l⟩
noncomputable def m196 (c240:F240) (l0:A196_0) (y:PTup i196):Option (PTup o196×BTup i196):=
  (l0 y.2 (y.1,()) ()).bind fun r0=>
  sumElim r0.1 (fun r1=>some ((),(r0.2.1,())))
  (fun r1=>some ((),(r0.2.1,())))
noncomputable def E196 (c240:F240) (l0:A196_0):CEnv:=⟨⟨Tryz.prog,fnsL [g240 c240]⟩,loopsL [(0,e196_0 l0)]⟩
theorem t196_0 (c240:F240) (l0:A196_0) (again) (x y z):loopRound (E196 c240 l0) (loopAt (bodyOf Tryz.f196) 0) (e196_0 l0) Tryz.f196.ntmps again x y z=w196_0 c240 again x y z:=by kernel_rfl
noncomputable def n196_0 (c240:F240):Nat→A196_0
  |0,_,_,_=>none
  |n+1,x,y,z=>w196_0 c240 (fun y z=>n196_0 c240 n x y z) x y z
theorem s196 (c240:F240) (l0:A196_0) (y):tevF (E196 c240 l0) Tryz.f196 i196 o196 y=m196 c240 l0 y:=by kernel_rfl
noncomputable def L196_0:A196_0:=n196_0 r240 fuel
noncomputable def r196:F196:=m196 r240 L196_0
theorem k196:KO (g196 r196):=by
  have hE: ∀g f,(E196 r240 L196_0).env.fns g=some f→CallOk Tryz.prog g f:=fnsL_ok ⟨k240,⟨⟩⟩
  have h0:LoopOk Tryz.prog Tryz.f196.ntmps (loopAt (bodyOf Tryz.f196) 0) (e196_0 L196_0):=lp_ok (E:=E196 r240 L196_0) rfl hE mixed (AllLoops.of_list (l:=[]) (by kernel_rfl) trivial) (n196_0 r240) (fun _ _ _=>rfl) (fun n x y z=>t196_0 r240 L196_0 _ x y z) rfl
  exact fn_ok (E:=E196 r240 L196_0) rfl hE mixed (by kernel_rfl) (by kernel_rfl) (AllLoops.of_list (l:=[(loopAt (bodyOf Tryz.f196) 0)]) (by kernel_rfl) (.one (by kernel_rfl) h0 trivial)) (s196 r240 L196_0)
abbrev i127:Ts:=[.p [.sl false .n, .sl false .i, .sl false .i, .int .i64, .int .i64, .int .i64, .int .i64, .int .i64, .bool, .bool, .bool, .bool, .bool, .int .i64, .int .i64, .bool, .int .i64, .bool, .int .i64, .int .i64, .sl false .i, .int .i64, .int .i64, .int .i64, .int .i64, .int .i64, .bool, .sl true .i, .sl true .i, .int .i64, .sl true .t, .sl true .n, .int .i64, .int .i64, .int .i64, .int .i64, .int .i64, .bool, .bool, .int .i64, .sl true .t, .sl true .i]]
abbrev o127:Ts:=[]
abbrev F127:=FT i127 o127
abbrev g127:=mkG 127 i127 o127
noncomputable def m127 (c195:F195) (c196:F196) (y:PTup i127):Option (PTup o127×BTup i127):=
  let a0:=y.1;let a1:=a0.2;let a2:=a1.2;let a3:=a2.2;let a4:=a3.2;let a5:=a4.2;let a6:=a5.2;let a7:=a6.2;let a8:=a7.2;let a9:=a8.2;let a10:=a9.2;let a11:=a10.2;let a12:=a11.2;let a13:=a12.2;let a14:=a13.2;let a15:=a14.2;let a16:=a15.2;let a17:=a16.2;let a18:=a17.2;let a19:=a18.2;let a20:=a19.2;let a21:=a20.2;let a22:=a21.2;let a23:=a22.2;let a24:=a23.2.2;let a25:=a24.2.2;(c195 ((a21.1,(a22.1,(a23.1,(a23.2.1,(a24.1,(a24.2.1,(a25.1,(a25.2.1,(a25.2.2.1,(a25.2.2.2.1,(a25.2.2.2.2.1,()))))))))))),(a14.1,()))).bind fun r0=>
  (c196 (a25.2.2.2.2.2,(a14.1,()))).bind fun r1=>
  some ((),((a0.1,(a1.1,(a2.1,(a3.1,(a4.1,(a5.1,(a6.1,(a7.1,(a8.1,(a9.1,(a10.1,(a11.1,(a12.1,(a13.1,(a14.1,(a15.1,(a16.1,(a17.1,(a18.1,(a19.1,(a20.1,(r0.2.1.1,(r0.2.1.2.1,(r0.2.1.2.2.1,(r0.2.1.2.2.2.1,(r0.2.1.2.2.2.2.1,(r0.2.1.2.2.2.2.2.1,(r0.2.1.2.2.2.2.2.2.1,(r0.2.1.2.2.2.2.2.2.2.1,(r0.2.1.2.2.2.2.2.2.2.2.1,(r0.2.1.2.2.2.2.2.2.2.2.2.1,(r0.2.1.2.2.2.2.2.2.2.2.2.2.1,r1.2.1)))))))))))))))))))))))))))))))),()))
theorem s127 (c195:F195) (c196:F196) (y):TE [g195 c195,g196 c196] Tryz.f127 i127 o127 y=m127 c195 c196 y:=by kernel_rfl
noncomputable def r127:F127:=m127 r195 r196
theorem k127:KO (g127 r127):=fk (s127 r195 r196) ⟨k195,k196,⟨⟩⟩ (by kernel_rfl)
abbrev i31:Ts:=[.a q8]
abbrev o31:Ts:=[.a q13]
abbrev F31:=FT i31 o31
abbrev g31:=mkG 31 i31 o31
noncomputable def m31 (c127:F127) (c34:F34) (c107:F107) (y:PTup i31):Option (PTup o31×BTup i31):=
  (c107 (y.1,())).bind fun r0=>
  (c34 (y.1,())).bind fun r1=>
  bif r1.1.1 then ((c127 (r0.1.1,())).bind fun r2=>let f0:=r2.2;let f1:=f0.1;let f2:=f1.2;let f3:=f2.2;let f4:=f3.2;let f5:=f4.2;let f6:=f5.2;let f7:=f6.2;let f8:=f7.2;let f9:=f8.2;let f10:=f9.2.2;let f11:=f10.2;let f12:=f11.2.2;let f13:=f12.2.2;some (((r0.1.1.1,(r0.1.1.2.1,(r0.1.1.2.2.1,(f4.1,(f5.1,(f6.1,(f7.1,(f8.1,(f9.1,(f9.2.1,(f10.1,(f11.1,(f11.2.1,(f12.1,(f12.2.1,(f13.1,(f13.2.1,(f13.2.2.1,(f13.2.2.2.1,(f13.2.2.2.2.1,(r0.1.1.2.2.2.2.2.2.2.2.2.2.2.2.2.2.2.2.2.2.2.2.1,f13.2.2.2.2.2.2))))))))))))))))))))),()),()))
  else some ((r0.1.1,()),())
theorem s31 (c127:F127) (c34:F34) (c107:F107) (y):TE [g127 c127,g34 c34,g107 c107] Tryz.f31 i31 o31 y=m31 c127 c34 c107 y:=by kernel_rfl
noncomputable def r31:F31:=m31 r127 r34 r107
theorem k31:KO (g31 r31):=fk (s31 r127 r34 r107) ⟨k127,k34,k107,⟨⟩⟩ (by kernel_rfl)
abbrev i55:Ts:=[.v (.sl false .i), .v (.sl false .i)]
abbrev o55:Ts:=[.v (.bool)]
abbrev F55:=FT i55 o55
abbrev g55:=mkG 55 i55 o55
abbrev lc55_0:Ts:=[.v (.sl false .i), .v (.sl false .i)]
abbrev lb55_0:Ts:=[]
abbrev lv55_0:Ts:=[.v (.int .i64)]
abbrev lr55_0:Ts:=[.v (.bool)]
abbrev R55_0:=Option (Sum (PTup lv55_0) (PTup lr55_0)×BTup lb55_0)
abbrev B55_0:=PTup lb55_0→PTup lv55_0→R55_0
abbrev A55_0:=PTup lc55_0→B55_0
noncomputable def w55_0 (again:B55_0) (x:PTup lc55_0) (y:PTup lb55_0) (z:PTup lv55_0):R55_0:=
  bif (ltI z.1 (lenI x.1))then (bif (leI 0 z.1)then (bif (ltI z.1 (lenI x.1))then (bif (leI 0 z.1)then (bif (ltI z.1 (lenI x.2.1))then (bif (neI (rdE .i x.1 z.1) (rdE .i x.2.1 z.1))then (some ((Sum.inr (false,())),()))
       else again () ((wI (z.1+1)),()))
      else none)
     else none)
    else none)
   else none)
  else some ((Sum.inl z),())
noncomputable def e55_0 (l:A55_0):LoopE:=⟨[0,1],lc55_0,[],lb55_0,[5],lv55_0,[4],lr55_0,0,[],l⟩
noncomputable def m55 (l0:A55_0) (y:PTup i55):Option (PTup o55×BTup i55):=
  bif (neI (lenI y.1) (lenI y.2.1))then no
  else (l0 y () ((0:Int),())).bind fun r0=>
  sumElim r0.1 (fun r1=>some ((true,()),()))
  (fun r1=>some (r1,()))
noncomputable def E55 (l0:A55_0):CEnv:=⟨⟨Tryz.prog,fnsL []⟩,loopsL [(4,e55_0 l0)]⟩
theorem t55_0 (l0:A55_0) (again) (x y z):loopRound (E55 l0) (loopAt (bodyOf Tryz.f55) 0) (e55_0 l0) Tryz.f55.ntmps again x y z=w55_0 again x y z:=by kernel_rfl
noncomputable def n55_0:Nat→A55_0
  |0,_,_,_=>none
  |n+1,x,y,z=>w55_0 (fun y z=>n55_0 n x y z) x y z
theorem s55 (l0:A55_0) (y):tevF (E55 l0) Tryz.f55 i55 o55 y=m55 l0 y:=by kernel_rfl
noncomputable def L55_0:A55_0:=n55_0 fuel
noncomputable def r55:F55:=m55 L55_0
theorem k55:KO (g55 r55):=by
  have hE: ∀g f,(E55 L55_0).env.fns g=some f→CallOk Tryz.prog g f:=fnsL_ok trivial
  have h0:LoopOk Tryz.prog Tryz.f55.ntmps (loopAt (bodyOf Tryz.f55) 0) (e55_0 L55_0):=lp_ok (E:=E55 L55_0) rfl hE mixed (AllLoops.of_list (l:=[]) (by kernel_rfl) trivial) (n55_0) (fun _ _ _=>rfl) (fun n x y z=>t55_0 L55_0 _ x y z) rfl
  exact fn_ok (E:=E55 L55_0) rfl hE mixed (by kernel_rfl) (by kernel_rfl) (AllLoops.of_list (l:=[(loopAt (bodyOf Tryz.f55) 0)]) (by kernel_rfl) (.one (by kernel_rfl) h0 trivial)) (s55 L55_0)
abbrev i128:Ts:=[.a q3, .a q3]
abbrev o128:Ts:=[.v (.bool)]
abbrev F128:=FT i128 o128
abbrev g128:=mkG 128 i128 o128
noncomputable def m128 (c55:F55) (y:PTup i128):Option (PTup o128×BTup i128):=
  bif (eqI y.1.1 y.2.1.1)then (bif (eqI y.1.2.1 y.2.1.2.1)then (bif (eqI y.1.2.2.1 y.2.1.2.2.1)then (bif (eqI y.1.2.2.2.1 y.2.1.2.2.2.1)then (bif (eqI y.1.2.2.2.2.1 y.2.1.2.2.2.2.1)then (bif (y.1.2.2.2.2.2.1==y.2.1.2.2.2.2.2.1)then ((c55 (y.1.2.2.2.2.2.2.1,(y.2.1.2.2.2.2.2.2.1,()))).bind fun r0=>
        bif r0.1.1 then ((c55 (y.1.2.2.2.2.2.2.2.1,y.2.1.2.2.2.2.2.2.2)).bind fun r1=>
         some (r1.1,()))
        else no)
       else no)
      else no)
     else no)
    else no)
   else no)
  else no
theorem s128 (c55:F55) (y):TE [g55 c55] Tryz.f128 i128 o128 y=m128 c55 y:=by kernel_rfl
noncomputable def r128:F128:=m128 r55
theorem k128:KO (g128 r128):=fk (s128 r55) ⟨k55,⟨⟩⟩ (by kernel_rfl)
abbrev i129:Ts:=[.v (.sl false .t), .v (.sl false .t)]
abbrev o129:Ts:=[.v (.bool)]
abbrev F129:=FT i129 o129
abbrev g129:=mkG 129 i129 o129
abbrev lc129_0:Ts:=[.v (.sl false .t), .v (.sl false .t)]
abbrev lb129_0:Ts:=[]
abbrev lv129_0:Ts:=[.v (.int .i64)]
abbrev lr129_0:Ts:=[.v (.bool)]
abbrev R129_0:=Option (Sum (PTup lv129_0) (PTup lr129_0)×BTup lb129_0)
abbrev B129_0:=PTup lb129_0→PTup lv129_0→R129_0
abbrev A129_0:=PTup lc129_0→B129_0
noncomputable def w129_0 (again:B129_0) (x:PTup lc129_0) (y:PTup lb129_0) (z:PTup lv129_0):R129_0:=
  bif (ltI z.1 (lenI x.1))then (bif (leI 0 z.1)then (bif (ltI z.1 (lenI x.1))then (bif (leI 0 z.1)then (bif (ltI z.1 (lenI x.2.1))then (bif (!((eqI (rdE .t x.1 z.1).1 (rdE .t x.2.1 z.1).1)&&((eqI (rdE .t x.1 z.1).2.1 (rdE .t x.2.1 z.1).2.1)&&((eqI (rdE .t x.1 z.1).2.2 (rdE .t x.2.1 z.1).2.2)&&true))))then (some ((Sum.inr (false,())),()))
       else again () ((wI (z.1+1)),()))
      else none)
     else none)
    else none)
   else none)
  else some ((Sum.inl z),())
noncomputable def e129_0 (l:A129_0):LoopE:=⟨[0,1],lc129_0,[],lb129_0,[5],lv129_0,[4],lr129_0,0,[],l⟩
noncomputable def m129 (l0:A129_0) (y:PTup i129):Option (PTup o129×BTup i129):=
  bif (neI (lenI y.1) (lenI y.2.1))then no
  else (l0 y () ((0:Int),())).bind fun r0=>
  sumElim r0.1 (fun r1=>some ((true,()),()))
  (fun r1=>some (r1,()))
noncomputable def E129 (l0:A129_0):CEnv:=⟨⟨Tryz.prog,fnsL []⟩,loopsL [(4,e129_0 l0)]⟩
theorem t129_0 (l0:A129_0) (again) (x y z):loopRound (E129 l0) (loopAt (bodyOf Tryz.f129) 0) (e129_0 l0) Tryz.f129.ntmps again x y z=w129_0 again x y z:=by kernel_rfl
noncomputable def n129_0:Nat→A129_0
  |0,_,_,_=>none
  |n+1,x,y,z=>w129_0 (fun y z=>n129_0 n x y z) x y z
theorem s129 (l0:A129_0) (y):tevF (E129 l0) Tryz.f129 i129 o129 y=m129 l0 y:=by kernel_rfl
noncomputable def L129_0:A129_0:=n129_0 fuel
noncomputable def r129:F129:=m129 L129_0
theorem k129:KO (g129 r129):=by
  have hE: ∀g f,(E129 L129_0).env.fns g=some f→CallOk Tryz.prog g f:=fnsL_ok trivial
  have h0:LoopOk Tryz.prog Tryz.f129.ntmps (loopAt (bodyOf Tryz.f129) 0) (e129_0 L129_0):=lp_ok (E:=E129 L129_0) rfl hE mixed (AllLoops.of_list (l:=[]) (by kernel_rfl) trivial) (n129_0) (fun _ _ _=>rfl) (fun n x y z=>t129_0 L129_0 _ x y z) rfl
  exact fn_ok (E:=E129 L129_0) rfl hE mixed (by kernel_rfl) (by kernel_rfl) (AllLoops.of_list (l:=[(loopAt (bodyOf Tryz.f129) 0)]) (by kernel_rfl) (.one (by kernel_rfl) h0 trivial)) (s129 L129_0)
abbrev i32:Ts:=[.a q8, .a q8]
abbrev o32:Ts:=[.v (.bool)]
abbrev F32:=FT i32 o32
abbrev g32:=mkG 32 i32 o32
noncomputable def m32 (c55:F55) (c128:F128) (c129:F129) (y:PTup i32):Option (PTup o32×BTup i32):=
  let a0:=y.1;let a1:=y.2;let a2:=a0.2;let a3:=a1.1;let a4:=a2.2;let a5:=a3.2;let a6:=a4.2;let a7:=a5.2;let a8:=a6.2;let a9:=a7.2;let a10:=a8.2;let a11:=a9.2;let a12:=a10.2;let a13:=a11.2;let a14:=a12.2;let a15:=a13.2;let a16:=a14.2;let a17:=a15.2;let a18:=a16.2;let a19:=a17.2;let a20:=a18.2;let a21:=a19.2;let a22:=a20.2;let a23:=a21.2;let a24:=a22.2;let a25:=a23.2;let a26:=a24.2;let a27:=a25.2;let a28:=a26.2;let a29:=a27.2;let a30:=a28.2;let a31:=a29.2;let a32:=a30.2;let a33:=a31.2;let a34:=a32.2;let a35:=a33.2;let a36:=a34.2;let a37:=a35.2;let a38:=a36.2;let a39:=a37.2;let a40:=a38.2;let a41:=a39.2;let a42:=a40.2;let a43:=a41.2;let a44:=a42.2;let a45:=a43.2;let a46:=a44.2;let a47:=a45.2;let a48:=a46.2;let a49:=a47.2;let a50:=a48.2;let a51:=a49.2;let a52:=a50.2;let a53:=a51.2;let a54:=a52.2;let a55:=a53.2;let a56:=a54.2;let a57:=a55.2;let a58:=a56.2;let a59:=a57.2;let a60:=a58.2;let a61:=a59.2;let a62:=a60.2;let a63:=a61.2;let a64:=a63.2;let a65:=a62.2.2;let a66:=a64.2.2;let a67:=a65.2.2;let a68:=a66.2.2;bif (!((eqI a8.1 a11.1)&&((eqI a10.1 a13.1)&&((eqI a12.1 a15.1)&&((eqI a14.1 a17.1)&&((a16.1==a19.1)&&((a18.1==a21.1)&&((a20.1==a23.1)&&((a22.1==a25.1)&&true)))))))))then no
  else (c55 (a4.1,(a7.1,()))).bind fun r0=>
  bif (!r0.1.1)then no
  else bif (neI a6.1 a9.1)then no
  else bif (!((a24.1==a27.1)&&((eqI a26.1 a29.1)&&true)))then no
  else bif (neI a28.1 a31.1)then no
  else bif (!(a30.1==a33.1))then no
  else bif (neI a32.1 a35.1)then no
  else bif (!(a34.1==a37.1))then no
  else bif (neI a36.1 a39.1)then no
  else bif (neI a38.1 a41.1)then no
  else (c55 (a40.1,(a43.1,()))).bind fun r1=>
  bif (!r1.1.1)then no
  else (c128 ((a42.1,(a44.1,(a46.1,(a48.1,(a50.1,(a52.1,(a54.1,(a56.1,())))))))),((a45.1,(a47.1,(a49.1,(a51.1,(a53.1,(a55.1,(a57.1,(a59.1,())))))))),()))).bind fun r2=>
  bif (!r2.1.1)then no
  else bif (!((eqI a62.2.1 a64.2.1)&&((eqI a65.1 a66.1)&&((eqI a65.2.1 a66.2.1)&&((eqI a67.1 a68.1)&&((eqI a67.2.1 a68.2.1)&&((a67.2.2.1==a68.2.2.1)&&((a67.2.2.2.1==a68.2.2.2.1)&&true))))))))then no
  else (c55 (a67.2.2.2.2.2.2.1,a68.2.2.2.2.2.2)).bind fun r3=>
  bif (!r3.1.1)then no
  else bif (neI (lenI a62.1) (lenI a64.1))then no
  else (c129 (a60.1,(a63.1,()))).bind fun r4=>
  bif r4.1.1 then ((c129 (a67.2.2.2.2.2.1,(a68.2.2.2.2.2.1,()))).bind fun r5=>
   bif r5.1.1 then (some (((eqI a58.1 a61.1),()),()))
   else no)
  else no
theorem s32 (c55:F55) (c128:F128) (c129:F129) (y):TE [g55 c55,g128 c128,g129 c129] Tryz.f32 i32 o32 y=m32 c55 c128 c129 y:=by kernel_rfl
noncomputable def r32:F32:=m32 r55 r128 r129
theorem k32:KO (g32 r32):=fk (s32 r55 r128 r129) ⟨k55,k128,k129,⟨⟩⟩ (by kernel_rfl)
abbrev i5:Ts:=[.v (.sl false .b)]
abbrev o5:Ts:=[.v (.bool)]
abbrev F5:=FT i5 o5
abbrev g5:=mkG 5 i5 o5
noncomputable def m5 (c31:F31) (c34:F34) (c20:F20) (c32:F32) (c30:F30) (c33:F33) (c29:F29) (y:PTup i5):Option (PTup o5×BTup i5):=
  (c20 y).bind fun r0=>
  bif r0.1.1 then (some ((true,()),()))
  else (c30 y).bind fun r1=>
  (c31 (r1.1.1,())).bind fun r2=>
  (c33 (r1.1.1,())).bind fun r3=>
  (c32 (r2.1.1,(r3.1.1,()))).bind fun r4=>
  bif (!r4.1.1)then no
  else (c29 (r1.1.1,())).bind fun r5=>
  bif (!r5.1.1)then ((c32 (r1.1.1,(r2.1.1,()))).bind fun r6=>
   some (r6.1,()))
  else bif (eqI r2.1.1.2.2.2.2.2.2.2.2.2.2.2.2.2.2.2.2.2.2.2.2.2.1 r1.1.1.2.2.2.2.2.2.2.2.2.2.2.2.2.2.1)then (bif (eqI r2.1.1.2.2.2.2.2.2.2.2.2.2.2.2.2.2.2.2.2.2.2.2.2.2.2.2.2.2.2.2.2.2.2.2.1 r1.1.1.2.2.2.2.2.2.2.2.2.2.2.2.2.2.1)then (bif (eqI (wI ((lenI r2.1.1.2.2.2.2.2.2.2.2.2.2.2.2.2.2.2.2.2.2.2.2.2.2.2.2.2.2.2.2.2.2.1)+(lenI r2.1.1.2.2.2.2.2.2.2.2.2.2.2.2.2.2.2.2.2.2.2.2.2.2.2.2.2.2.2.2.2.2.2.2.2.2.2.2.2.2.2.2.1))) (0:Int))then ((c31 (r2.1.1,())).bind fun r6=>
     (c32 (r6.1.1,(r2.1.1,()))).bind fun r7=>
     bif r7.1.1 then ((c34 (r2.1.1,())).bind fun r8=>
      bif r8.1.1 then (some ((((eqI r2.1.1.2.2.2.2.1 r1.1.1.2.2.2.2.1)&&((eqI r2.1.1.2.2.2.2.2.1 r1.1.1.2.2.2.2.2.1)&&((eqI r2.1.1.2.2.2.2.2.2.1 r1.1.1.2.2.2.2.2.2.1)&&((eqI r2.1.1.2.2.2.2.2.2.2.1 r1.1.1.2.2.2.2.2.2.2.1)&&((r2.1.1.2.2.2.2.2.2.2.2.1==r1.1.1.2.2.2.2.2.2.2.2.1)&&((r2.1.1.2.2.2.2.2.2.2.2.2.1==r1.1.1.2.2.2.2.2.2.2.2.2.1)&&((r2.1.1.2.2.2.2.2.2.2.2.2.2.1==r1.1.1.2.2.2.2.2.2.2.2.2.2.1)&&((r2.1.1.2.2.2.2.2.2.2.2.2.2.2.1==r1.1.1.2.2.2.2.2.2.2.2.2.2.2.1)&&true)))))))),()),()))
      else no)
     else no)
    else no)
   else no)
  else no
theorem s5 (c31:F31) (c34:F34) (c20:F20) (c32:F32) (c30:F30) (c33:F33) (c29:F29) (y):TE [g31 c31,g34 c34,g20 c20,g32 c32,g30 c30,g33 c33,g29 c29] Tryz.f5 i5 o5 y=m5 c31 c34 c20 c32 c30 c33 c29 y:=by kernel_rfl
noncomputable def r5:F5:=m5 r31 r34 r20 r32 r30 r33 r29
theorem k5:KO (g5 r5):=fk (s5 r31 r34 r20 r32 r30 r33 r29) ⟨k31,k34,k20,k32,k30,k33,k29,⟨⟩⟩ (by kernel_rfl)
end Go.Proofs.YtgeodknaigdenaaGreat.Plain
