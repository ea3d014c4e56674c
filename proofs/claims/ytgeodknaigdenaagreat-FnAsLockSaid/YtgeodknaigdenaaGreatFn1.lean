/- Plain functions that the program's functions answer as; their contracts. Printed by a program of the proofs' writer. No condition. -/
import Derived.Test.YtgeodknaigdenaaGreatW5
import Derived.KernelRfl
import Derived.Test.YtgeodknaigdenaaGreatFn0
set_option linter.unusedVariables false
set_option linter.unusedSimpArgs false
set_option maxRecDepth 100000
namespace Go.Proofs.YtgeodknaigdenaaGreat.Plain
open Go Go.Tev
abbrev i94:Ts:=[.v (.sl false .i), .v (.sl false .i)]
abbrev o94:Ts:=[.v (.bool)]
abbrev F94:=FT i94 o94
abbrev g94:=mkG 94 i94 o94
abbrev lc94_0:Ts:=[.v (.sl false .i), .v (.sl false .i), .v (.int .i64)]
abbrev lb94_0:Ts:=[]
abbrev lv94_0:Ts:=[.v (.int .i64)]
abbrev lr94_0:Ts:=[.v (.bool)]
abbrev R94_0:=Option (Sum (PTup lv94_0) (PTup lr94_0)×BTup lb94_0)
abbrev B94_0:=PTup lb94_0→PTup lv94_0→R94_0
abbrev A94_0:=PTup lc94_0→B94_0
noncomputable def w94_0 (again:B94_0) (x:PTup lc94_0) (y:PTup lb94_0) (z:PTup lv94_0):R94_0:=
  bif (ltI z.1 x.2.2.1)then (bif (leI 0 z.1)then (bif (ltI z.1 (lenI x.1))then (bif (leI 0 z.1)then (bif (ltI z.1 (lenI x.2.1))then (bif (neI (rdE .i x.1 z.1) (rdE .i x.2.1 z.1))then (some ((Sum.inr (false,())),()))
       else again () ((wI (z.1+1)),()))
      else none)
     else none)
    else none)
   else none)
  else some ((Sum.inl z),())
noncomputable def e94_0 (l:A94_0):LoopE:=⟨[0,1,12],lc94_0,[],lb94_0,[13],lv94_0,[4],lr94_0,0,[],l⟩
noncomputable def m94 (l0:A94_0) (y:PTup i94):Option (PTup o94×BTup i94):=
  bif (neI (lenI y.1) (lenI y.2.1))then no
  else (l0 (y.1,(y.2.1,((lenI y.1),()))) () ((0:Int),())).bind fun r0=>
  sumElim r0.1 (fun r1=>some ((true,()),()))
  (fun r1=>some (r1,()))
noncomputable def E94 (l0:A94_0):CEnv:=⟨⟨Tryz.prog,fnsL []⟩,loopsL [(4,e94_0 l0)]⟩
theorem t94_0 (l0:A94_0) (again) (x y z):loopRound (E94 l0) (loopAt (bodyOf Tryz.f94) 0) (e94_0 l0) Tryz.f94.ntmps again x y z=w94_0 again x y z:=by kernel_rfl
noncomputable def n94_0:Nat→A94_0
  |0,_,_,_=>none
  |n+1,x,y,z=>w94_0 (fun y z=>n94_0 n x y z) x y z
theorem s94 (l0:A94_0) (y):tevF (E94 l0) Tryz.f94 i94 o94 y=m94 l0 y:=by kernel_rfl
noncomputable def L94_0:A94_0:=n94_0 fuel
noncomputable def r94:F94:=m94 L94_0
theorem k94:KO (g94 r94):=by
  have hE: ∀g f,(E94 L94_0).env.fns g=some f→CallOk Tryz.prog g f:=fnsL_ok trivial
  have h0:LoopOk Tryz.prog Tryz.f94.ntmps (loopAt (bodyOf Tryz.f94) 0) (e94_0 L94_0):=lp_ok (E:=E94 L94_0) rfl hE mixed (AllLoops.of_list (l:=[]) (by kernel_rfl) trivial) (n94_0) (fun _ _ _=>rfl) (fun n x y z=>t94_0 L94_0 _ x y z) rfl
  exact fn_ok (E:=E94 L94_0) rfl hE mixed (by kernel_rfl) (by kernel_rfl) (AllLoops.of_list (l:=[(loopAt (bodyOf Tryz.f94) 0)]) (by kernel_rfl) (.one (by kernel_rfl) h0 trivial)) (s94 L94_0)
abbrev i93:Ts:=[.a q1, .a q1]
abbrev o93:Ts:=[.v (.bool)]
abbrev F93:=FT i93 o93
abbrev g93:=mkG 93 i93 o93
noncomputable def m93 (c94:F94) (y:PTup i93):Option (PTup o93×BTup i93):=
  bif (eqI y.1.2.1 y.2.1.2.1)then ((c94 (y.1.1,(y.2.1.1,()))).bind fun r0=>
   some (r0.1,()))
  else no
theorem s93 (c94:F94) (y):TE [g94 c94] Tryz.f93 i93 o93 y=m93 c94 y:=by kernel_rfl
noncomputable def r93:F93:=m93 r94
theorem k93:KO (g93 r93):=fk (s93 r94) ⟨k94,⟨⟩⟩ (by kernel_rfl)
abbrev i131:Ts:=[.a q5, .v (.int .i64)]
abbrev o131:Ts:=[.a q14]
abbrev F131:=FT i131 o131
abbrev g131:=mkG 131 i131 o131
abbrev lc131_0:Ts:=[.v (.int .i64)]
abbrev lb131_0:Ts:=[.p q14]
abbrev lv131_0:Ts:=[.v (.bool)]
abbrev lr131_0:Ts:=[]
abbrev R131_0:=Option (Sum (PTup lv131_0) (PTup lr131_0)×BTup lb131_0)
abbrev B131_0:=PTup lb131_0→PTup lv131_0→R131_0
abbrev A131_0:=PTup lc131_0→B131_0
noncomputable def w131_0 (c122:F122) (c163:F163) (c197:F197) (again:B131_0) (x:PTup lc131_0) (y:PTup lb131_0) (z:PTup lv131_0):R131_0:=
  bif z.1 then ((c163 (y.1,x)).bind fun r0=>
   again (r0.1.1,()) r0.1.2)
  else some ((Sum.inl z),(y.1,()))
noncomputable def e131_0 (l:A131_0):LoopE:=⟨[1],lc131_0,[5],lb131_0,[6],lv131_0,[],lr131_0,0,[],l⟩
noncomputable def m131 (c122:F122) (c163:F163) (c197:F197) (l0:A131_0) (y:PTup i131):Option (PTup o131×BTup i131):=
  (c122 (y.1,())).bind fun r0=>
  bif (!r0.1.1)then (some ((((0:Int),((0:Int),((0:Int),((0:Int),((0:Int),(false,([],([],((0:Int),([],([],()))))))))))),()),()))
  else (c197 (y.1,())).bind fun r1=>
  (l0 y.2 (r1.1.1,()) (true,())).bind fun r2=>
  sumElim r2.1 (fun r3=>some ((r2.2.1,()),()))
  (fun r3=>some ((((0:Int),((0:Int),((0:Int),((0:Int),((0:Int),(false,([],([],((0:Int),([],([],()))))))))))),()),()))
noncomputable def E131 (c122:F122) (c163:F163) (c197:F197) (l0:A131_0):CEnv:=⟨⟨Tryz.prog,fnsL [g122 c122,g163 c163,g197 c197]⟩,loopsL [(5,e131_0 l0)]⟩
theorem t131_0 (c122:F122) (c163:F163) (c197:F197) (l0:A131_0) (again) (x y z):loopRound (E131 c122 c163 c197 l0) (loopAt (bodyOf Tryz.f131) 0) (e131_0 l0) Tryz.f131.ntmps again x y z=w131_0 c122 c163 c197 again x y z:=by kernel_rfl
noncomputable def n131_0 (c122:F122) (c163:F163) (c197:F197):Nat→A131_0
  |0,_,_,_=>none
  |n+1,x,y,z=>w131_0 c122 c163 c197 (fun y z=>n131_0 c122 c163 c197 n x y z) x y z
theorem s131 (c122:F122) (c163:F163) (c197:F197) (l0:A131_0) (y):tevF (E131 c122 c163 c197 l0) Tryz.f131 i131 o131 y=m131 c122 c163 c197 l0 y:=by kernel_rfl
noncomputable def L131_0:A131_0:=n131_0 r122 r163 r197 fuel
noncomputable def r131:F131:=m131 r122 r163 r197 L131_0
theorem k131:KO (g131 r131):=by
  have hE: ∀g f,(E131 r122 r163 r197 L131_0).env.fns g=some f→CallOk Tryz.prog g f:=fnsL_ok ⟨k122,k163,k197,⟨⟩⟩
  have h0:LoopOk Tryz.prog Tryz.f131.ntmps (loopAt (bodyOf Tryz.f131) 0) (e131_0 L131_0):=lp_ok (E:=E131 r122 r163 r197 L131_0) rfl hE mixed (AllLoops.of_list (l:=[]) (by kernel_rfl) trivial) (n131_0 r122 r163 r197) (fun _ _ _=>rfl) (fun n x y z=>t131_0 r122 r163 r197 L131_0 _ x y z) rfl
  exact fn_ok (E:=E131 r122 r163 r197 L131_0) rfl hE mixed (by kernel_rfl) (by kernel_rfl) (AllLoops.of_list (l:=[(loopAt (bodyOf Tryz.f131) 0)]) (by kernel_rfl) (.one (by kernel_rfl) h0 trivial)) (s131 r122 r163 r197 L131_0)
abbrev i132:Ts:=[.a q7, .v (.int .i64)]
abbrev o132:Ts:=[.a q15]
abbrev F132:=FT i132 o132
abbrev g132:=mkG 132 i132 o132
abbrev lc132_0:Ts:=[.v (.int .i64)]
abbrev lb132_0:Ts:=[.p q15]
abbrev lv132_0:Ts:=[.v (.bool)]
abbrev lr132_0:Ts:=[]
abbrev R132_0:=Option (Sum (PTup lv132_0) (PTup lr132_0)×BTup lb132_0)
abbrev B132_0:=PTup lb132_0→PTup lv132_0→R132_0
abbrev A132_0:=PTup lc132_0→B132_0
noncomputable def w132_0 (c123:F123) (c164:F164) (c198:F198) (again:B132_0) (x:PTup lc132_0) (y:PTup lb132_0) (z:PTup lv132_0):R132_0:=
  bif z.1 then ((c164 (y.1,x)).bind fun r0=>
   again (r0.1.1,()) r0.1.2)
  else some ((Sum.inl z),(y.1,()))
noncomputable def e132_0 (l:A132_0):LoopE:=⟨[1],lc132_0,[5],lb132_0,[6],lv132_0,[],lr132_0,0,[],l⟩
noncomputable def m132 (c123:F123) (c164:F164) (c198:F198) (l0:A132_0) (y:PTup i132):Option (PTup o132×BTup i132):=
  (c123 (y.1,())).bind fun r0=>
  bif (!r0.1.1)then (some ((((0:Int),((0:Int),((0:Int),((0:Int),((0:Int),(false,(false,((0:Int),([],([],())))))))))),()),()))
  else (c198 (y.1,())).bind fun r1=>
  (l0 y.2 (r1.1.1,()) (true,())).bind fun r2=>
  sumElim r2.1 (fun r3=>some ((r2.2.1,()),()))
  (fun r3=>some ((((0:Int),((0:Int),((0:Int),((0:Int),((0:Int),(false,(false,((0:Int),([],([],())))))))))),()),()))
noncomputable def E132 (c123:F123) (c164:F164) (c198:F198) (l0:A132_0):CEnv:=⟨⟨Tryz.prog,fnsL [g123 c123,g164 c164,g198 c198]⟩,loopsL [(5,e132_0 l0)]⟩
theorem t132_0 (c123:F123) (c164:F164) (c198:F198) (l0:A132_0) (again) (x y z):loopRound (E132 c123 c164 c198 l0) (loopAt (bodyOf Tryz.f132) 0) (e132_0 l0) Tryz.f132.ntmps again x y z=w132_0 c123 c164 c198 again x y z:=by kernel_rfl
noncomputable def n132_0 (c123:F123) (c164:F164) (c198:F198):Nat→A132_0
  |0,_,_,_=>none
  |n+1,x,y,z=>w132_0 c123 c164 c198 (fun y z=>n132_0 c123 c164 c198 n x y z) x y z
theorem s132 (c123:F123) (c164:F164) (c198:F198) (l0:A132_0) (y):tevF (E132 c123 c164 c198 l0) Tryz.f132 i132 o132 y=m132 c123 c164 c198 l0 y:=by kernel_rfl
noncomputable def L132_0:A132_0:=n132_0 r123 r164 r198 fuel
noncomputable def r132:F132:=m132 r123 r164 r198 L132_0
theorem k132:KO (g132 r132):=by
  have hE: ∀g f,(E132 r123 r164 r198 L132_0).env.fns g=some f→CallOk Tryz.prog g f:=fnsL_ok ⟨k123,k164,k198,⟨⟩⟩
  have h0:LoopOk Tryz.prog Tryz.f132.ntmps (loopAt (bodyOf Tryz.f132) 0) (e132_0 L132_0):=lp_ok (E:=E132 r123 r164 r198 L132_0) rfl hE mixed (AllLoops.of_list (l:=[]) (by kernel_rfl) trivial) (n132_0 r123 r164 r198) (fun _ _ _=>rfl) (fun n x y z=>t132_0 r123 r164 r198 L132_0 _ x y z) rfl
  exact fn_ok (E:=E132 r123 r164 r198 L132_0) rfl hE mixed (by kernel_rfl) (by kernel_rfl) (AllLoops.of_list (l:=[(loopAt (bodyOf Tryz.f132) 0)]) (by kernel_rfl) (.one (by kernel_rfl) h0 trivial)) (s132 r123 r164 r198 L132_0)
abbrev i33:Ts:=[.a q8]
abbrev o33:Ts:=[.a q13]
abbrev F33:=FT i33 o33
abbrev g33:=mkG 33 i33 o33
noncomputable def m33 (c131:F131) (c132:F132) (c29:F29) (c130:F130) (y:PTup i33):Option (PTup o33×BTup i33):=
  let a0:=y.1;let a1:=a0.2;let a2:=a1.2;let a3:=a2.2;let a4:=a3.2;let a5:=a4.2;let a6:=a5.2;let a7:=a6.2;let a8:=a7.2;let a9:=a8.2;let a10:=a9.2.2;let a11:=a10.2;let a12:=a11.2;let a13:=a12.2;let a14:=a13.2;let a15:=a14.2;let a16:=a15.2;let a17:=a16.2;let a18:=a17.2;let a19:=a18.2;let a20:=a19.2;let a21:=a20.2;let a22:=a21.2;let a23:=a22.2.2;let a24:=a23.2.2;(c130 (a0,())).bind fun r0=>let b0:=r0.1;let b1:=b0.1;let b2:=b1.2;let b3:=b2.2;let b4:=b3.2;let b5:=b4.2;let b6:=b5.2;let b7:=b6.2;let b8:=b7.2;let b9:=b8.2;let b10:=b9.2.2;let b11:=b10.2;let b12:=b11.2.2;let b13:=b12.2.2;(c29 (a0,())).bind fun r1=>
  bif (!r1.1.1)then (some ((b1,()),()))
  else (c131 ((a20.1,(a21.1,(a22.1,(a22.2.1,(a23.1,(a23.2.1,(a24.1,(a24.2.1,(a24.2.2.1,(a24.2.2.2.1,(a24.2.2.2.2.1,()))))))))))),(a13.1,()))).bind fun r2=>
  (c132 (a24.2.2.2.2.2,(a13.1,()))).bind fun r3=>
  some (((b1.1,(b2.1,(b3.1,(b4.1,(b5.1,(b6.1,(b7.1,(b8.1,(b9.1,(b9.2.1,(b10.1,(b11.1,(b11.2.1,(b12.1,(b12.2.1,(b13.1,(b13.2.1,(b13.2.2.1,(b13.2.2.2.1,(b13.2.2.2.2.1,(b13.2.2.2.2.2.1,(r2.1.1.1,(r2.1.1.2.1,(r2.1.1.2.2.1,(r2.1.1.2.2.2.1,(r2.1.1.2.2.2.2.1,(r2.1.1.2.2.2.2.2.1,(r2.1.1.2.2.2.2.2.2.1,(r2.1.1.2.2.2.2.2.2.2.1,(r2.1.1.2.2.2.2.2.2.2.2.1,(r2.1.1.2.2.2.2.2.2.2.2.2.1,(r2.1.1.2.2.2.2.2.2.2.2.2.2.1,r3.1.1)))))))))))))))))))))))))))))))),()),())
theorem s33 (c131:F131) (c132:F132) (c29:F29) (c130:F130) (y):TE [g131 c131,g132 c132,g29 c29,g130 c130] Tryz.f33 i33 o33 y=m33 c131 c132 c29 c130 y:=by kernel_rfl
noncomputable def r33:F33:=m33 r131 r132 r29 r130
theorem k33:KO (g33 r33):=fk (s33 r131 r132 r29 r130) ⟨k131,k132,k29,k130,⟨⟩⟩ (by kernel_rfl)
abbrev i21:Ts:=[.v (.sl false .b)]
abbrev o21:Ts:=[.a q13]
abbrev F21:=FT i21 o21
abbrev g21:=mkG 21 i21 o21
noncomputable def m21 (c33:F33) (c103:F103) (c102:F102) (c104:F104) (y:PTup i21):Option (PTup o21×BTup i21):=
  (c102 y).bind fun r0=>
  (c103 (r0.1.1,())).bind fun r1=>
  (c104 ((r0.1.1.1,r1.2.1.2),((3:Int),()))).bind fun r2=>
  bif (!r2.1.1)then ((c33 (r1.1.1,())).bind fun r3=>
   some ((r3.1.1,()),()))
  else some ((r1.1.1,()),())
theorem s21 (c33:F33) (c103:F103) (c102:F102) (c104:F104) (y):TE [g33 c33,g103 c103,g102 c102,g104 c104] Tryz.f21 i21 o21 y=m21 c33 c103 c102 c104 y:=by kernel_rfl
noncomputable def r21:F21:=m21 r33 r103 r102 r104
theorem k21:KO (g21 r21):=fk (s21 r33 r103 r102 r104) ⟨k33,k103,k102,k104,⟨⟩⟩ (by kernel_rfl)
abbrev i105:Ts:=[.r q8]
abbrev o105:Ts:=[.v (.bool)]
abbrev F105:=FT i105 o105
abbrev g105:=mkG 105 i105 o105
noncomputable def m105 (y:PTup i105):Option (PTup o105×BTup i105):=
  bif (eqI y.1.2.2.2.2.2.2.2.2.2.2.2.2.2.2.2.2.2.2.2.2.2.1 y.1.2.2.2.2.2.2.2.2.2.2.2.2.2.2.1)then (some (((eqI (lenI y.1.2.2.2.2.2.2.2.2.2.2.2.2.2.2.2.2.2.2.2.2.2.2.2.2.2.2.2.2.2.2.1) 0),()),()))
  else no
theorem s105 (y):TE [] Tryz.f105 i105 o105 y=m105 y:=by kernel_rfl
noncomputable def r105:F105:=m105
theorem k105:KO (g105 r105):=fk (s105) trivial (by kernel_rfl)
abbrev i106:Ts:=[.r q8]
abbrev o106:Ts:=[.v (.bool)]
abbrev F106:=FT i106 o106
abbrev g106:=mkG 106 i106 o106
noncomputable def m106 (y:PTup i106):Option (PTup o106×BTup i106):=
  bif (eqI y.1.2.2.2.2.2.2.2.2.2.2.2.2.2.2.2.2.2.2.2.2.2.2.2.2.2.2.2.2.2.2.2.2.1 y.1.2.2.2.2.2.2.2.2.2.2.2.2.2.2.1)then (some (((eqI (lenI y.1.2.2.2.2.2.2.2.2.2.2.2.2.2.2.2.2.2.2.2.2.2.2.2.2.2.2.2.2.2.2.2.2.2.2.2.2.2.2.2.2.1) 0),()),()))
  else no
theorem s106 (y):TE [] Tryz.f106 i106 o106 y=m106 y:=by kernel_rfl
noncomputable def r106:F106:=m106
theorem k106:KO (g106 r106):=fk (s106) trivial (by kernel_rfl)
abbrev i27:Ts:=[.a q8]
abbrev o27:Ts:=[.a [.sl true .n, .sl true .i, .sl true .i]]
abbrev F27:=FT i27 o27
abbrev g27:=mkG 27 i27 o27
noncomputable def m27 (c116:F116) (c117:F117) (y:PTup i27):Option (PTup o27×BTup i27):=
  (c116 (y.1.2.2.2.2.2.2.2.2.2.2.2.2.2.2.2.2.2.2.2.2.2.2.2.2.2.2.2.2.2.2.2.1,())).bind fun r0=>
  (c117 y.1.2.2.2.2.2.2.2.2.2.2.2.2.2.2.2.2.2.2.2.2.2.2.2.2.2.2.2.2.2.2.2.2.2.2.2.2.2.2.2.2.2).bind fun r1=>
  (c117 (y.1.2.2.2.2.2.2.2.2.2.2.2.2.2.2.2.2.2.2.2.2.1,())).bind fun r2=>
  some (((r0.1.1,(r1.1.1,r2.1)),()),())
theorem s27 (c116:F116) (c117:F117) (y):TE [g116 c116,g117 c117] Tryz.f27 i27 o27 y=m27 c116 c117 y:=by kernel_rfl
noncomputable def r27:F27:=m27 r116 r117
theorem k27:KO (g27 r27):=fk (s27 r116 r117) ⟨k116,k117,⟨⟩⟩ (by kernel_rfl)
abbrev i22:Ts:=[.a q8]
abbrev o22:Ts:=[.a [.sl true .n, .sl true .i, .sl true .i, .int .i64, .int .i64, .int .i64, .int .i64, .int .i64, .bool, .bool, .bool, .bool, .int .i64, .int .i64, .int .i64, .int .i64, .int .i64, .bool, .sl true .i, .sl true .i, .int .i64, .int .i64, .int .i64, .int .i64, .int .i64, .bool, .bool, .bool, .int .i64, .bool, .int .i64, .sl true .n, .sl true .i, .sl true .i]]
abbrev R22:=Option (PTup o22×BTup i22)
abbrev F22:=PTup i22→R22
abbrev g22:=mkG 22 i22 o22
noncomputable def m22 (c105:F105) (c106:F106) (c27:F27) (c34:F34) (c107:F107) (y:PTup i22):R22:=
  let a0:=y.1;let a1:=a0.2;let a2:=a1.2;let a3:=a2.2;let a4:=a3.2;let a5:=a4.2;let a6:=a5.2;let a7:=a6.2;let a8:=a7.2;let a9:=a8.2;let a10:=a9.2.2;let a11:=a10.2;let a12:=a11.2;let a13:=a12.2.2;let a14:=a13.2.2;let a15:=a14.2.2;let a16:=a15.2.2;let a17:=a16.2.2;let a18:=a17.2.2;let a19:=a18.2.2;let a20:=a19.2.2;let a21:=a20.2.2;let a22:=a21.2.2;let X0:R22:=some ((([],([],([],((0:Int),((0:Int),((0:Int),((0:Int),((0:Int),(false,(false,(false,(false,((0:Int),((0:Int),((0:Int),((0:Int),((0:Int),(false,([],([],((0:Int),((0:Int),((0:Int),((0:Int),((0:Int),(false,(false,(false,((0:Int),(false,((0:Int),([],([],([],())))))))))))))))))))))))))))))))))),()),());(c34 (a0,())).bind fun r0=>bif (!r0.1.1)then X0 else (c105 (a0,())).bind fun r1=>bif (!r1.1.1)then X0 else (c106 (a0,())).bind fun r2=>bif (!r2.1.1)then X0 else (c107 (a0,())).bind fun r3=>(c27 (r3.1.1,())).bind fun r4=>some (((r3.1.1.1,(r3.1.1.2.1,(r3.1.1.2.2.1,(r3.1.1.2.2.2.1,(a4.1,(a5.1,(a6.1,(a7.1,(a8.1,(a9.1,(a9.2.1,(a10.1,(r3.1.1.2.2.2.2.2.2.2.2.2.2.2.2.2.2.2.2.2.2.2.2.2.1,(r3.1.1.2.2.2.2.2.2.2.2.2.2.2.2.2.2.2.2.2.2.2.2.2.2.1,(r3.1.1.2.2.2.2.2.2.2.2.2.2.2.2.2.2.2.2.2.2.2.2.2.2.2.1,(r3.1.1.2.2.2.2.2.2.2.2.2.2.2.2.2.2.2.2.2.2.2.2.2.2.2.2.1,(r3.1.1.2.2.2.2.2.2.2.2.2.2.2.2.2.2.2.2.2.2.2.2.2.2.2.2.2.1,(r3.1.1.2.2.2.2.2.2.2.2.2.2.2.2.2.2.2.2.2.2.2.2.2.2.2.2.2.2.1,(r3.1.1.2.2.2.2.2.2.2.2.2.2.2.2.2.2.2.2.2.2.2.2.2.2.2.2.2.2.2.1,(r3.1.1.2.2.2.2.2.2.2.2.2.2.2.2.2.2.2.2.2.2.2.2.2.2.2.2.2.2.2.2.1,(a21.2.1,(a22.1,(a22.2.1,(a22.2.2.1,(a22.2.2.2.1,(a22.2.2.2.2.1,(a22.2.2.2.2.2.1,(a11.1,(a12.1,(a13.1,(a15.1,r4.1.1))))))))))))))))))))))))))))))),()),())
theorem s22 (c105:F105) (c106:F106) (c27:F27) (c34:F34) (c107:F107) (y):TE [g105 c105,g106 c106,g27 c27,g34 c34,g107 c107] Tryz.f22 i22 o22 y=m22 c105 c106 c27 c34 c107 y:=by kernel_rfl
noncomputable def r22:F22:=m22 r105 r106 r27 r34 r107
theorem k22:KO (g22 r22):=fk (s22 r105 r106 r27 r34 r107) ⟨k105,k106,k27,k34,k107,⟨⟩⟩ (by kernel_rfl)
abbrev i28:Ts:=[.a q8]
abbrev o28:Ts:=[.a [.sl true .n, .sl true .i, .sl true .i]]
abbrev F28:=FT i28 o28
abbrev g28:=mkG 28 i28 o28
noncomputable def m28 (c118:F118) (y:PTup i28):Option (PTup o28×BTup i28):=
  (c118 (y.1.2.2.2.2.2.2.2.2.2.2.2.2.2.2.2.2.2.2.2.2.2.2.2.2.2.2.2.2.2.2.2.1,())).bind fun r0=>
  bif (leN (0+(List.length y.1.2.2.2.2.2.2.2.2.2.2.2.2.2.2.2.2.2.2.2.2.2.2.2.2.2.2.2.2.2.2.2.2.2.2.2.2.2.2.2.2.2.1)) (E.most .i))then (bif (leN (0+(List.length y.1.2.2.2.2.2.2.2.2.2.2.2.2.2.2.2.2.2.2.2.2.1)) (E.most .i))then (some (((r0.1.1,(([]++y.1.2.2.2.2.2.2.2.2.2.2.2.2.2.2.2.2.2.2.2.2.2.2.2.2.2.2.2.2.2.2.2.2.2.2.2.2.2.2.2.2.2.1),(([]++y.1.2.2.2.2.2.2.2.2.2.2.2.2.2.2.2.2.2.2.2.2.1),()))),()),()))
   else none)
  else none
theorem s28 (c118:F118) (y):TE [g118 c118] Tryz.f28 i28 o28 y=m28 c118 y:=by kernel_rfl
noncomputable def r28:F28:=m28 r118
theorem k28:KO (g28 r28):=fk (s28 r118) ⟨k118,⟨⟩⟩ (by kernel_rfl)
abbrev i24:Ts:=[.a q8]
abbrev o24:Ts:=[.a [.sl true .n, .sl true .i, .sl true .i, .int .i64, .int .i64, .int .i64, .int .i64, .int .i64, .bool, .bool, .bool, .bool, .int .i64, .int .i64, .int .i64, .int .i64, .int .i64, .bool, .sl true .i, .sl true .i, .int .i64, .int .i64, .int .i64, .int .i64, .int .i64, .bool, .bool, .bool, .int .i64, .bool, .int .i64, .sl true .n, .sl true .i, .sl true .i]]
abbrev R24:=Option (PTup o24×BTup i24)
abbrev F24:=PTup i24→R24
abbrev g24:=mkG 24 i24 o24
noncomputable def m24 (c28:F28) (c29:F29) (c111:F111) (c109:F109) (c110:F110) (c112:F112) (c113:F113) (y:PTup i24):R24:=
  let a0:=y.1;let a1:=a0.2;let a2:=a1.2;let a3:=a2.2;let a4:=a3.2;let a5:=a4.2;let a6:=a5.2;let a7:=a6.2;let a8:=a7.2;let a9:=a8.2;let a10:=a9.2;let a11:=a10.2;let a12:=a11.2;let a13:=a12.2;let a14:=a13.2;let a15:=a14.2;let a16:=a15.2;let a17:=a16.2;let a18:=a17.2;let a19:=a18.2;let a20:=a19.2;let a21:=a20.2;let a22:=a21.2;let a23:=a22.2;let a24:=a23.2;let a25:=a24.2;let a26:=a25.2;let a27:=a26.2.2;let a28:=a27.2.2;let a29:=a28.2.2;let a30:=a29.2.2.2;let X0:R24:=some ((([],([],([],((0:Int),((0:Int),((0:Int),((0:Int),((0:Int),(false,(false,(false,(false,((0:Int),((0:Int),((0:Int),((0:Int),((0:Int),(false,([],([],((0:Int),((0:Int),((0:Int),((0:Int),((0:Int),(false,(false,(false,((0:Int),(false,((0:Int),([],([],([],())))))))))))))))))))))))))))))))))),()),());(c29 (a0,())).bind fun r0=>bif (!r0.1.1)then X0 else (c109 (a0,())).bind fun r1=>bif (!r1.1.1)then X0 else (c110 (a0,())).bind fun r2=>bif (!r2.1.1)then X0 else (c111 ((a0.1,()),())).bind fun r3=>bif (leN (0+(List.length a1.1)) (E.most .i))then ((c112 ((a2.1,(a3.1,())),())).bind fun r4=>(c113 ((a21.1,(a22.1,(a23.1,(a24.1,(a25.1,(a26.1,(a26.2.1,(a27.1,())))))))),())).bind fun r5=>(c28 (a0,())).bind fun r6=>some (((r3.1.1.1,(([]++a1.1),(r4.1.1.1,(r4.1.1.2.1,(a4.1,(a5.1,(a6.1,(a7.1,(a8.1,(a9.1,(a10.1,(a11.1,(r5.1.1.1,(r5.1.1.2.1,(r5.1.1.2.2.1,(r5.1.1.2.2.2.1,(r5.1.1.2.2.2.2.1,(r5.1.1.2.2.2.2.2.1,(r5.1.1.2.2.2.2.2.2.1,(r5.1.1.2.2.2.2.2.2.2.1,(a29.1,(a29.2.1,(a29.2.2.1,(a30.1,(a30.2.1,(a30.2.2.1,(a30.2.2.2.1,(a12.1,(a13.1,(a15.1,(a19.1,r6.1.1))))))))))))))))))))))))))))))),()),()))else none
theorem s24 (c28:F28) (c29:F29) (c111:F111) (c109:F109) (c110:F110) (c112:F112) (c113:F113) (y):TE [g28 c28,g29 c29,g111 c111,g109 c109,g110 c110,g112 c112,g113 c113] Tryz.f24 i24 o24 y=m24 c28 c29 c111 c109 c110 c112 c113 y:=by kernel_rfl
noncomputable def r24:F24:=m24 r28 r29 r111 r109 r110 r112 r113
theorem k24:KO (g24 r24):=fk (s24 r28 r29 r111 r109 r110 r112 r113) ⟨k28,k29,k111,k109,k110,k112,k113,⟨⟩⟩ (by kernel_rfl)
abbrev i108:Ts:=[.a q3, .a q3]
abbrev o108:Ts:=[.v (.bool)]
abbrev F108:=FT i108 o108
abbrev g108:=mkG 108 i108 o108
noncomputable def m108 (c94:F94) (y:PTup i108):Option (PTup o108×BTup i108):=
  bif (eqI y.1.1 y.2.1.1)then (bif (eqI y.1.2.1 y.2.1.2.1)then (bif (eqI y.1.2.2.1 y.2.1.2.2.1)then (bif (eqI y.1.2.2.2.1 y.2.1.2.2.2.1)then (bif (eqI y.1.2.2.2.2.1 y.2.1.2.2.2.2.1)then (bif (y.1.2.2.2.2.2.1==y.2.1.2.2.2.2.2.1)then ((c94 (y.1.2.2.2.2.2.2.1,(y.2.1.2.2.2.2.2.2.1,()))).bind fun r0=>
        bif r0.1.1 then ((c94 (y.1.2.2.2.2.2.2.2.1,y.2.1.2.2.2.2.2.2.2)).bind fun r1=>
         some (r1.1,()))
        else no)
       else no)
      else no)
     else no)
    else no)
   else no)
  else no
theorem s108 (c94:F94) (y):TE [g94 c94] Tryz.f108 i108 o108 y=m108 c94 y:=by kernel_rfl
noncomputable def r108:F108:=m108 r94
theorem k108:KO (g108 r108):=fk (s108 r94) ⟨k94,⟨⟩⟩ (by kernel_rfl)
abbrev i115:Ts:=[.v (.sl false .i), .v (.sl false .i)]
abbrev o115:Ts:=[.v (.bool)]
abbrev F115:=FT i115 o115
abbrev g115:=mkG 115 i115 o115
noncomputable def m115 (c94:F94) (y:PTup i115):Option (PTup o115×BTup i115):=
  (c94 y).bind fun r0=>
  some (r0.1,())
theorem s115 (c94:F94) (y):TE [g94 c94] Tryz.f115 i115 o115 y=m115 c94 y:=by kernel_rfl
noncomputable def r115:F115:=m115 r94
theorem k115:KO (g115 r115):=fk (s115 r94) ⟨k94,⟨⟩⟩ (by kernel_rfl)
abbrev i114:Ts:=[.v (.sl false .n), .v (.sl false .n), .v (.fn 115)]
abbrev o114:Ts:=[.v (.bool)]
abbrev F114:=FT i114 o114
abbrev g114:=mkG 114 i114 o114
abbrev lc114_0:Ts:=[.v (.sl false .n), .v (.fn 115), .v (.sl false .n), .v (.int .i64)]
abbrev lb114_0:Ts:=[]
abbrev lv114_0:Ts:=[.v (.int .i64)]
abbrev lr114_0:Ts:=[.v (.bool)]
abbrev R114_0:=Option (Sum (PTup lv114_0) (PTup lr114_0)×BTup lb114_0)
abbrev B114_0:=PTup lb114_0→PTup lv114_0→R114_0
abbrev A114_0:=PTup lc114_0→B114_0
noncomputable def w114_0 (c115:F115) (again:B114_0) (x:PTup lc114_0) (y:PTup lb114_0) (z:PTup lv114_0):R114_0:=
  bif (ltI z.1 x.2.2.2.1)then (bif (leI 0 z.1)then (bif (ltI z.1 (lenI x.2.2.1))then (bif (leI 0 z.1)then (bif (ltI z.1 (lenI x.1))then ((c115 ((rdE .n x.2.2.1 z.1),((rdE .n x.1 z.1),()))).bind fun r0=>
       bif (!r0.1.1)then (some ((Sum.inr (false,())),()))
       else again () ((wI (z.1+1)),()))
      else none)
     else none)
    else none)
   else none)
  else some ((Sum.inl z),())
noncomputable def e114_0 (l:A114_0):LoopE:=⟨[1,2,15,16],lc114_0,[],lb114_0,[17],lv114_0,[6],lr114_0,0,[],l⟩
noncomputable def m114 (c115:F115) (l0:A114_0) (y:PTup i114):Option (PTup o114×BTup i114):=
  bif (neI (lenI y.1) (lenI y.2.1))then no
  else (l0 (y.2.1,((),(y.1,((lenI y.1),())))) () ((0:Int),())).bind fun r0=>
  sumElim r0.1 (fun r1=>some ((true,()),()))
  (fun r1=>some (r1,()))
noncomputable def E114 (c115:F115) (l0:A114_0):CEnv:=⟨⟨Tryz.prog,fnsL [g115 c115]⟩,loopsL [(4,e114_0 l0)]⟩
theorem t114_0 (c115:F115) (l0:A114_0) (again) (x y z):loopRound (E114 c115 l0) (loopAt (bodyOf Tryz.f114) 0) (e114_0 l0) Tryz.f114.ntmps again x y z=w114_0 c115 again x y z:=by kernel_rfl
noncomputable def n114_0 (c115:F115):Nat→A114_0
  |0,_,_,_=>none
  |n+1,x,y,z=>w114_0 c115 (fun y z=>n114_0 c115 n x y z) x y z
theorem s114 (c115:F115) (l0:A114_0) (y):tevF (E114 c115 l0) Tryz.f114 i114 o114 y=m114 c115 l0 y:=by kernel_rfl
noncomputable def L114_0:A114_0:=n114_0 r115 fuel
noncomputable def r114:F114:=m114 r115 L114_0
theorem k114:KO (g114 r114):=by
  have hE: ∀g f,(E114 r115 L114_0).env.fns g=some f→CallOk Tryz.prog g f:=fnsL_ok ⟨k115,⟨⟩⟩
  have h0:LoopOk Tryz.prog Tryz.f114.ntmps (loopAt (bodyOf Tryz.f114) 0) (e114_0 L114_0):=lp_ok (E:=E114 r115 L114_0) rfl hE mixed (AllLoops.of_list (l:=[]) (by kernel_rfl) trivial) (n114_0 r115) (fun _ _ _=>rfl) (fun n x y z=>t114_0 r115 L114_0 _ x y z) rfl
  exact fn_ok (E:=E114 r115 L114_0) rfl hE mixed (by kernel_rfl) (by kernel_rfl) (AllLoops.of_list (l:=[(loopAt (bodyOf Tryz.f114) 0)]) (by kernel_rfl) (.one (by kernel_rfl) h0 trivial)) (s114 r115 L114_0)
abbrev i26:Ts:=[.a [.sl false .n, .sl false .i, .sl false .i], .a [.sl false .n, .sl false .i, .sl false .i]]
abbrev o26:Ts:=[.v (.bool)]
abbrev F26:=FT i26 o26
abbrev g26:=mkG 26 i26 o26
noncomputable def m26 (c114:F114) (c94:F94) (y:PTup i26):Option (PTup o26×BTup i26):=
  (c114 (y.1.1,(y.2.1.1,((),())))).bind fun r0=>
  bif r0.1.1 then ((c94 (y.1.2.1,(y.2.1.2.1,()))).bind fun r1=>
   bif r1.1.1 then ((c94 (y.1.2.2.1,y.2.1.2.2)).bind fun r2=>
    some (r2.1,()))
   else no)
  else no
theorem s26 (c114:F114) (c94:F94) (y):TE [g114 c114,g94 c94] Tryz.f26 i26 o26 y=m26 c114 c94 y:=by kernel_rfl
noncomputable def r26:F26:=m26 r114 r94
theorem k26:KO (g26 r26):=fk (s26 r114 r94) ⟨k114,k94,⟨⟩⟩ (by kernel_rfl)
abbrev i23:Ts:=[.a [.sl false .n, .sl false .i, .sl false .i, .int .i64, .int .i64, .int .i64, .int .i64, .int .i64, .bool, .bool, .bool, .bool, .int .i64, .int .i64, .int .i64, .int .i64, .int .i64, .bool, .sl false .i, .sl false .i, .int .i64, .int .i64, .int .i64, .int .i64, .int .i64, .bool, .bool, .bool, .int .i64, .bool, .int .i64, .sl false .n, .sl false .i, .sl false .i], .a [.sl false .n, .sl false .i, .sl false .i, .int .i64, .int .i64, .int .i64, .int .i64, .int .i64, .bool, .bool, .bool, .bool, .int .i64, .int .i64, .int .i64, .int .i64, .int .i64, .bool, .sl false .i, .sl false .i, .int .i64, .int .i64, .int .i64, .int .i64, .int .i64, .bool, .bool, .bool, .int .i64, .bool, .int .i64, .sl false .n, .sl false .i, .sl false .i]]
abbrev o23:Ts:=[.v (.bool)]
abbrev F23:=FT i23 o23
abbrev g23:=mkG 23 i23 o23
noncomputable def m23 (c26:F26) (c93:F93) (c108:F108) (y:PTup i23):Option (PTup o23×BTup i23):=
  let a0:=y.1;let a1:=y.2;let a2:=a0.2;let a3:=a1.1;let a4:=a2.2;let a5:=a3.2;let a6:=a4.2;let a7:=a5.2;let a8:=a6.2;let a9:=a7.2;let a10:=a8.2;let a11:=a9.2;let a12:=a10.2;let a13:=a11.2;let a14:=a12.2;let a15:=a13.2;let a16:=a14.2;let a17:=a15.2;let a18:=a16.2;let a19:=a17.2;let a20:=a18.2;let a21:=a19.2;let a22:=a20.2;let a23:=a21.2;let a24:=a22.2;let a25:=a23.2;let a26:=a24.2;let a27:=a25.2;let a28:=a26.2;let a29:=a27.2;let a30:=a28.2;let a31:=a29.2;let a32:=a30.2;let a33:=a31.2;let a34:=a32.2;let a35:=a33.2;let a36:=a34.2;let a37:=a35.2;let a38:=a36.2;let a39:=a37.2;let a40:=a38.2;let a41:=a39.2;let a42:=a40.2;let a43:=a41.2;let a44:=a42.2;let a45:=a43.2;let a46:=a45.2;let a47:=a44.2.2;let a48:=a46.2.2;let a49:=a47.2.2;let a50:=a48.2.2;bif ((eqI a8.1 a11.1)&&((eqI a10.1 a13.1)&&((eqI a12.1 a15.1)&&((eqI a14.1 a17.1)&&((a16.1==a19.1)&&((a18.1==a21.1)&&((a20.1==a23.1)&&((a22.1==a25.1)&&true))))))))then (bif ((eqI a40.1 a43.1)&&((eqI a42.1 a45.1)&&((eqI a44.1 a46.1)&&((eqI a44.2.1 a46.2.1)&&((eqI a47.1 a48.1)&&((a47.2.1==a48.2.1)&&((a49.1==a50.1)&&true)))))))then (bif ((a49.2.1==a50.2.1)&&((eqI a49.2.2.1 a50.2.2.1)&&true))then (bif (a49.2.2.2.1==a50.2.2.2.1)then (bif (eqI a49.2.2.2.2.1 a50.2.2.2.2.1)then ((c93 ((a4.1,(a6.1,())),((a7.1,(a9.1,())),()))).bind fun r0=>
       bif r0.1.1 then ((c108 ((a24.1,(a26.1,(a28.1,(a30.1,(a32.1,(a34.1,(a36.1,(a38.1,())))))))),((a27.1,(a29.1,(a31.1,(a33.1,(a35.1,(a37.1,(a39.1,(a41.1,())))))))),()))).bind fun r1=>
        bif r1.1.1 then ((c26 (a49.2.2.2.2.2,(a50.2.2.2.2.2,()))).bind fun r2=>
         some (r2.1,()))
        else no)
       else no)
      else no)
     else no)
    else no)
   else no)
  else no
theorem s23 (c26:F26) (c93:F93) (c108:F108) (y):TE [g26 c26,g93 c93,g108 c108] Tryz.f23 i23 o23 y=m23 c26 c93 c108 y:=by kernel_rfl
noncomputable def r23:F23:=m23 r26 r93 r108
theorem k23:KO (g23 r23):=fk (s23 r26 r93 r108) ⟨k26,k93,k108,⟨⟩⟩ (by kernel_rfl)
abbrev i25:Ts:=[.v (.sl false .b)]
abbrev o25:Ts:=[.a q13]
abbrev F25:=FT i25 o25
abbrev g25:=mkG 25 i25 o25
noncomputable def m25 (c103:F103) (c102:F102) (y:PTup i25):Option (PTup o25×BTup i25):=
  (c102 y).bind fun r0=>
  (c103 (r0.1.1,())).bind fun r1=>
  some ((r1.1.1,()),())
theorem s25 (c103:F103) (c102:F102) (y):TE [g103 c103,g102 c102] Tryz.f25 i25 o25 y=m25 c103 c102 y:=by kernel_rfl
noncomputable def r25:F25:=m25 r103 r102
theorem k25:KO (g25 r25):=fk (s25 r103 r102) ⟨k103,k102,⟨⟩⟩ (by kernel_rfl)
abbrev i4:Ts:=[.v (.sl false .b)]
abbrev o4:Ts:=[.v (.bool)]
abbrev F4:=FT i4 o4
abbrev g4:=mkG 4 i4 o4
noncomputable def m4 (c22:F22) (c23:F23) (c27:F27) (c26:F26) (c20:F20) (c24:F24) (c21:F21) (c25:F25) (c28:F28) (c29:F29) (y:PTup i4):Option (PTup o4×BTup i4):=
  (c20 y).bind fun r0=>
  bif r0.1.1 then (some ((true,()),()))
  else (c21 y).bind fun r1=>let d0:=r1.1;let d1:=d0.1;let d2:=d1.2;let d3:=d2.2;let d4:=d3.2;let d5:=d4.2;let d6:=d5.2;let d7:=d6.2;let d8:=d7.2;let d9:=d8.2;let d10:=d9.2;let d11:=d10.2;let d12:=d11.2;let d13:=d12.2;let d14:=d13.2;let d15:=d14.2;let d16:=d15.2;let d17:=d16.2;let d18:=d17.2;let d19:=d18.2;let d20:=d19.2;let d21:=d20.2;let d22:=d21.2;let d23:=d22.2;let d24:=d23.2;let d25:=d24.2;let d26:=d25.2;let d27:=d26.2;let d28:=d27.2;let d29:=d28.2;let d30:=d29.2;let d31:=d30.2;let d32:=d31.2.2;let d33:=d32.2.2;(c22 (d1,())).bind fun r2=>let f0:=r2.1;let f1:=f0.1;let f2:=f1.2;let f3:=f2.2;let f4:=f3.2;let f5:=f4.2;let f6:=f5.2;let f7:=f6.2;let f8:=f7.2;let f9:=f8.2;let f10:=f9.2.2;let f11:=f10.2;let f12:=f11.2;let f13:=f12.2.2;let f14:=f13.2.2;let f15:=f14.2.2;let f16:=f15.2.2;let f17:=f16.2.2;let f18:=f17.2.2.2;(c24 (d1,())).bind fun r3=>
  (c23 (f1,(r3.1.1,()))).bind fun r4=>
  bif (!r4.1.1)then no
  else (c25 y).bind fun r5=>
  (c27 (r5.1.1,())).bind fun r6=>
  (c28 (r5.1.1,())).bind fun r7=>
  (c26 (r6.1.1,(r7.1.1,()))).bind fun r8=>
  bif (!r8.1.1)then no
  else bif (eqI (lenI f3.1) 0)then ((c29 (d1,())).bind fun r9=>
   bif (!r9.1.1)then (some ((true,()),()))
   else bif (neI d22.1 d15.1)then (some ((true,()),()))
   else bif (neI d32.1 d15.1)then (some ((true,()),()))
   else some (((ltI 0 (wI ((lenI d31.1)+(lenI d33.2.2.2.2.2.2.1)))),()),()))
  else bif ((eqI f5.1 d5.1)&&((eqI f6.1 d6.1)&&((eqI f7.1 d7.1)&&((eqI f8.1 d8.1)&&((f9.1==d9.1)&&((f9.2.1==d10.1)&&((f10.1==d11.1)&&((f11.1==d12.1)&&true))))))))then (bif (eqI f12.1 d15.1)then (bif ((eqI f16.1 d32.1)&&((eqI f16.2.1 d32.2.1)&&((eqI f17.1 d33.1)&&((eqI f17.2.1 d33.2.1)&&((eqI f17.2.2.1 d33.2.2.1)&&((f18.1==d33.2.2.2.1)&&((f18.2.1==d33.2.2.2.2.1)&&true)))))))then (bif (eqI f18.2.2.2.2.2.1 d20.1)then ((c27 (d1,())).bind fun r9=>
      (c26 (f18.2.2.2.2.2.2,(r9.1.1,()))).bind fun r10=>
      some (r10.1,()))
     else no)
    else no)
   else no)
  else no
theorem s4 (c22:F22) (c23:F23) (c27:F27) (c26:F26) (c20:F20) (c24:F24) (c21:F21) (c25:F25) (c28:F28) (c29:F29) (y):TE [g22 c22,g23 c23,g27 c27,g26 c26,g20 c20,g24 c24,g21 c21,g25 c25,g28 c28,g29 c29] Tryz.f4 i4 o4 y=m4 c22 c23 c27 c26 c20 c24 c21 c25 c28 c29 y:=by kernel_rfl
noncomputable def r4:F4:=m4 r22 r23 r27 r26 r20 r24 r21 r25 r28 r29
theorem k4:KO (g4 r4):=fk (s4 r22 r23 r27 r26 r20 r24 r21 r25 r28 r29) ⟨k22,k23,k27,k26,k20,k24,k21,k25,k28,k29,⟨⟩⟩ (by kernel_rfl)
end Go.Proofs.YtgeodknaigdenaaGreat.Plain
