/- Plain functions that the program's functions answer as; their contracts. Printed by a program of the proofs' writer. No condition. -/
import Derived.Test.YtgpifihakjdfeaaGreatW5
import Derived.KernelRfl
import Derived.Test.YtgpifihakjdfeaaGreatFn0
set_option linter.unusedVariables false
set_option linter.unusedSimpArgs false
set_option maxRecDepth 100000
namespace Go.Proofs.YtgpifihakjdfeaaGreat.Plain
open Go Go.Tev
abbrev i35:Ts:=[.v (.sl false .b)]
abbrev o35:Ts:=[.a q1, .v (.sl true .i), .v (.int .i64)]
abbrev F35:=FT i35 o35
abbrev g35:=mkG 35 i35 o35
noncomputable def m35 (c98:F98) (c57:F57) (c54:F54) (c97:F97) (y:PTup i35):Option (PTup o35×BTup i35):=
  (c54 y).bind fun r0=>
  (c97 (r0.1.1,())).bind fun r1=>
  (c98 ((r0.1.1.1,r1.2.1.2),())).bind fun r2=>
  (c57 ((r0.1.1.1,r2.2.1.2),((19:Int),()))).bind fun r3=>
  some ((r1.1.1,(r2.1.1,((wI (r3.1.1-1)),()))),())
theorem s35 (c98:F98) (c57:F57) (c54:F54) (c97:F97) (y):TE [g98 c98,g57 c57,g54 c54,g97 c97] Tryz.f35 i35 o35 y=m35 c98 c57 c54 c97 y:=by kernel_rfl
noncomputable def r35:F35:=m35 r98 r57 r54 r97
theorem k35:KO (g35 r35):=fk (s35 r98 r57 r54 r97) ⟨k98,k57,k54,k97,⟨⟩⟩ (by kernel_rfl)
abbrev i99:Ts:=[.v (.int .i64)]
abbrev o99:Ts:=[.a [.int .i64, .sl true .t], .v (.bool)]
abbrev F99:=FT i99 o99
abbrev g99:=mkG 99 i99 o99
noncomputable def m99 (c162:F162) (y:PTup i99):Option (PTup o99×BTup i99):=
  (c162 ((y.1,([],())),())).bind fun r0=>
  bif (!r0.1.1)then (some ((((0:Int),([],())),(false,())),()))
  else some (((y.1,([],())),(true,())),())
theorem s99 (c162:F162) (y):TE [g162 c162] Tryz.f99 i99 o99 y=m99 c162 y:=by kernel_rfl
noncomputable def r99:F99:=m99 r162
theorem k99:KO (g99 r99):=fk (s99 r162) ⟨k162,⟨⟩⟩ (by kernel_rfl)
abbrev i36:Ts:=[.a q2, .v (.sl false .i), .v (.int .i64)]
abbrev o36:Ts:=[.a q13, .v (.bool)]
abbrev R36:=Option (PTup o36×BTup i36)
abbrev F36:=PTup i36→R36
abbrev g36:=mkG 36 i36 o36
noncomputable def m36 (c81:F81) (c80:F80) (c82:F82) (c99:F99) (c16:F16) (c79:F79) (c75:F75) (c100:F100) (y:PTup i36):R36:=
  let X0:R36:=some ((([],([],([],((0:Int),((0:Int),((0:Int),((0:Int),((0:Int),(false,(false,(false,(false,(false,((0:Int),((0:Int),(false,((0:Int),(false,((0:Int),((0:Int),([],((0:Int),((0:Int),((0:Int),((0:Int),((0:Int),(false,([],([],((0:Int),([],([],((0:Int),((0:Int),((0:Int),((0:Int),((0:Int),(false,(false,((0:Int),([],([],())))))))))))))))))))))))))))))))))))))))))),(false,())),());(c99 y.2.2).bind fun r0=>(c79 (y.1,())).bind fun r1=>(c75 (y.2.1,())).bind fun r2=>(c80 ()).bind fun r3=>(c81 (y.1,())).bind fun r4=>(c82 ()).bind fun r5=>(c100 (r0.1.1,())).bind fun r6=>(c100 (r0.1.1,())).bind fun r7=>bif (!r0.1.2.1)then X0 else (c16 ((r1.1.1.1,(r2.1.1,(r3.1.1.1,(r3.1.1.2.1,(r4.1.1.1,(r4.1.1.2.1,(r4.1.1.2.2.1,(r4.1.1.2.2.2.1,(r4.1.1.2.2.2.2.1,(r4.1.1.2.2.2.2.2.1,(r4.1.1.2.2.2.2.2.2.1,(r4.1.1.2.2.2.2.2.2.2.1,(false,((0:Int),((0:Int),(false,((0:Int),(false,((0:Int),((0:Int),([],(r5.1.1.1,(r5.1.1.2.1,(r5.1.1.2.2.1,(r5.1.1.2.2.2.1,(r5.1.1.2.2.2.2.1,(r5.1.1.2.2.2.2.2.1,(r5.1.1.2.2.2.2.2.2.1,(r5.1.1.2.2.2.2.2.2.2.1,(r6.1.1.1,(r6.1.1.2.1,([],((0:Int),((0:Int),((0:Int),((0:Int),((0:Int),(false,(false,(r7.1.1.1,(r7.1.1.2.1,([],())))))))))))))))))))))))))))))))))))))))))),())).bind fun r8=>bif (!r8.1.1)then X0 else some (((r1.1.1.1,(r2.1.1,(r3.1.1.1,(r3.1.1.2.1,(r4.1.1.1,(r4.1.1.2.1,(r4.1.1.2.2.1,(r4.1.1.2.2.2.1,(r4.1.1.2.2.2.2.1,(r4.1.1.2.2.2.2.2.1,(r4.1.1.2.2.2.2.2.2.1,(r4.1.1.2.2.2.2.2.2.2.1,(false,((0:Int),((0:Int),(false,((0:Int),(false,((0:Int),((0:Int),([],(r5.1.1.1,(r5.1.1.2.1,(r5.1.1.2.2.1,(r5.1.1.2.2.2.1,(r5.1.1.2.2.2.2.1,(r5.1.1.2.2.2.2.2.1,(r5.1.1.2.2.2.2.2.2.1,(r5.1.1.2.2.2.2.2.2.2.1,(r6.1.1.1,(r6.1.1.2.1,([],((0:Int),((0:Int),((0:Int),((0:Int),((0:Int),(false,(false,(r7.1.1.1,(r7.1.1.2.1,([],())))))))))))))))))))))))))))))))))))))))))),(true,())),())
theorem s36 (c81:F81) (c80:F80) (c82:F82) (c99:F99) (c16:F16) (c79:F79) (c75:F75) (c100:F100) (y):TE [g81 c81,g80 c80,g82 c82,g99 c99,g16 c16,g79 c79,g75 c75,g100 c100] Tryz.f36 i36 o36 y=m36 c81 c80 c82 c99 c16 c79 c75 c100 y:=by kernel_rfl
noncomputable def r36:F36:=m36 r81 r80 r82 r99 r16 r79 r75 r100
theorem k36:KO (g36 r36):=fk (s36 r81 r80 r82 r99 r16 r79 r75 r100) ⟨k81,k80,k82,k99,k16,k79,k75,k100,⟨⟩⟩ (by kernel_rfl)
abbrev i38:Ts:=[.a q12, .v (.int .i64)]
abbrev o38:Ts:=[.a q13, .v (.int .i64)]
abbrev R38:=Option (PTup o38×BTup i38)
abbrev F38:=PTup i38→R38
abbrev g38:=mkG 38 i38 o38
abbrev lc38_0:Ts:=[.v (.int .i64)]
abbrev lb38_0:Ts:=[.p [.sl false .n, .sl false .i, .sl true .i, .int .i64, .int .i64, .int .i64, .int .i64, .int .i64, .bool, .bool, .bool, .bool, .bool, .int .i64, .int .i64, .bool, .int .i64, .bool, .int .i64, .int .i64, .sl true .i, .int .i64, .int .i64, .int .i64, .int .i64, .int .i64, .bool, .sl true .i, .sl true .i, .int .i64, .sl true .t, .sl true .n, .int .i64, .int .i64, .int .i64, .int .i64, .int .i64, .bool, .bool, .int .i64, .sl true .t, .sl true .i]]
abbrev lv38_0:Ts:=[.v (.int .i64)]
abbrev lr38_0:Ts:=[]
abbrev R38_0:=Option (Sum (PTup lv38_0) (PTup lr38_0)×BTup lb38_0)
abbrev B38_0:=PTup lb38_0→PTup lv38_0→R38_0
abbrev A38_0:=PTup lc38_0→B38_0
noncomputable def w38_0 (c78:F78) (c105:F105) (c16:F16) (c58:F58) (again:B38_0) (x:PTup lc38_0) (y:PTup lb38_0) (z:PTup lv38_0):R38_0:=
  bif (ltI z.1 (mnI x.1 (3000:Int)))then ((c78 (y.1,())).bind fun r0=>let b0:=r0.2;let b1:=b0.1;let b2:=b1.2;let b3:=b2.2;let b4:=b3.2;let b5:=b4.2;let b6:=b5.2;let b7:=b6.2;let b8:=b7.2;let b9:=b8.2;let b10:=b9.2;let b11:=b10.2;let b12:=b11.2;let b13:=b12.2;let b14:=b13.2;let b15:=b14.2;let b16:=b15.2;let b17:=b16.2;let b18:=b17.2;let b19:=b18.2;let b20:=b19.2;let b21:=b20.2.2;let b22:=b21.2.2;let b23:=b22.2.2;let b24:=b23.2.2;let b25:=b24.2.2.2;let b26:=b25.2.2.2.2.2.2.2.2.2;(c105 ((y.1.1,(y.1.2.1,(y.1.2.2.1,(b4.1,(b5.1,(b6.1,(b7.1,(b8.1,(b9.1,(b10.1,(b11.1,(b12.1,(b13.1,(b14.1,(b15.1,(b16.1,(b17.1,(b18.1,(b19.1,(b20.1,(y.1.2.2.2.2.2.2.2.2.2.2.2.2.2.2.2.2.2.2.2.2.1,b21))))))))))))))))))))),())).bind fun r1=>let d0:=r1.2;let d1:=d0.1;let d2:=d1.2;let d3:=d2.2;let d4:=d3.2;let d5:=d4.2;let d6:=d5.2;let d7:=d6.2;let d8:=d7.2;let d9:=d8.2;let d10:=d9.2;let d11:=d10.2;let d12:=d11.2;let d13:=d12.2;let d14:=d13.2;let d15:=d14.2;let d16:=d15.2;let d17:=d16.2;let d18:=d17.2;let d19:=d18.2;let d20:=d19.2;let d21:=d20.2;let d22:=d21.2;let d23:=d22.2;let d24:=d23.2;let d25:=d24.2;let d26:=d25.2;let d27:=d26.2;let d28:=d27.2;let d29:=d28.2;let d30:=d29.2;let d31:=d30.2;let d32:=d31.2;let d33:=d32.2;let d34:=d33.2;let d35:=d34.2;let d36:=d35.2;let d37:=d36.2;let d38:=d37.2.2;bif (!r1.1.1)then (some ((Sum.inl z),((y.1.1,(y.1.2.1,(d3.1,(d4.1,(d5.1,(d6.1,(d7.1,(d8.1,(d9.1,(d10.1,(d11.1,(d12.1,(d13.1,(d14.1,(d15.1,(d16.1,(d17.1,(d18.1,(d19.1,(d20.1,(d21.1,(d22.1,(d23.1,(d24.1,(d25.1,(d26.1,(d27.1,(b24.1,(b24.2.1,(d30.1,(d31.1,(b25.2.1,(d33.1,(d34.1,(d35.1,(d36.1,(d37.1,(d37.2.1,(d38.1,(d38.2.1,(d38.2.2.1,b26.2.2))))))))))))))))))))))))))))))))))))))))),())))
   else again ((y.1.1,(y.1.2.1,(d3.1,(d4.1,(d5.1,(d6.1,(d7.1,(d8.1,(d9.1,(d10.1,(d11.1,(d12.1,(d13.1,(d14.1,(d15.1,(d16.1,(d17.1,(d18.1,(d19.1,(d20.1,(d21.1,(d22.1,(d23.1,(d24.1,(d25.1,(d26.1,(d27.1,(b24.1,(b24.2.1,(d30.1,(d31.1,(b25.2.1,(d33.1,(d34.1,(d35.1,(d36.1,(d37.1,(d37.2.1,(d38.1,(d38.2.1,(d38.2.2.1,b26.2.2))))))))))))))))))))))))))))))))))))))))),()) ((wI (z.1+1)),()))
  else some ((Sum.inl z),(y.1,()))
noncomputable def e38_0 (l:A38_0):LoopE:=⟨[1],lc38_0,[6],lb38_0,[7],lv38_0,[],lr38_0,0,[],l⟩
noncomputable def m38 (c78:F78) (c105:F105) (c16:F16) (c58:F58) (l0:A38_0) (y:PTup i38):R38:=
  let X0:R38:=some ((([],([],([],((0:Int),((0:Int),((0:Int),((0:Int),((0:Int),(false,(false,(false,(false,(false,((0:Int),((0:Int),(false,((0:Int),(false,((0:Int),((0:Int),([],((0:Int),((0:Int),((0:Int),((0:Int),((0:Int),(false,([],([],((0:Int),([],([],((0:Int),((0:Int),((0:Int),((0:Int),((0:Int),(false,(false,((0:Int),([],([],())))))))))))))))))))))))))))))))))))))))))),((0:Int),())),());(c16 (y.1,())).bind fun r0=>bif (!r0.1.1)then X0 else (c58 (y.1,())).bind fun r1=>(l0 y.2 (r1.1.1,()) ((0:Int),())).bind fun r2=>sumElim r2.1 (fun r3=>some (((r1.1.1.1,(r1.1.1.2.1,r2.2.1.2.2)),r3),())) (fun r3=>X0)
noncomputable def E38 (c78:F78) (c105:F105) (c16:F16) (c58:F58) (l0:A38_0):CEnv:=⟨⟨Tryz.prog,fnsL [g78 c78,g105 c105,g16 c16,g58 c58]⟩,loopsL [(5,e38_0 l0)]⟩
theorem t38_0 (c78:F78) (c105:F105) (c16:F16) (c58:F58) (l0:A38_0) (again) (x y z):loopRound (E38 c78 c105 c16 c58 l0) (loopAt (bodyOf Tryz.f38) 0) (e38_0 l0) Tryz.f38.ntmps again x y z=w38_0 c78 c105 c16 c58 again x y z:=by kernel_rfl
noncomputable def n38_0 (c78:F78) (c105:F105) (c16:F16) (c58:F58):Nat→A38_0
  |0,_,_,_=>none
  |n+1,x,y,z=>w38_0 c78 c105 c16 c58 (fun y z=>n38_0 c78 c105 c16 c58 n x y z) x y z
theorem s38 (c78:F78) (c105:F105) (c16:F16) (c58:F58) (l0:A38_0) (y):tevF (E38 c78 c105 c16 c58 l0) Tryz.f38 i38 o38 y=m38 c78 c105 c16 c58 l0 y:=by kernel_rfl
noncomputable def L38_0:A38_0:=n38_0 r78 r105 r16 r58 fuel
noncomputable def r38:F38:=m38 r78 r105 r16 r58 L38_0
theorem k38:KO (g38 r38):=by
  have hE: ∀g f,(E38 r78 r105 r16 r58 L38_0).env.fns g=some f→CallOk Tryz.prog g f:=fnsL_ok ⟨k78,k105,k16,k58,⟨⟩⟩
  have h0:LoopOk Tryz.prog Tryz.f38.ntmps (loopAt (bodyOf Tryz.f38) 0) (e38_0 L38_0):=lp_ok (E:=E38 r78 r105 r16 r58 L38_0) rfl hE mixed (AllLoops.of_list (l:=[]) (by kernel_rfl) trivial) (n38_0 r78 r105 r16 r58) (fun _ _ _=>rfl) (fun n x y z=>t38_0 r78 r105 r16 r58 L38_0 _ x y z) rfl
  exact fn_ok (E:=E38 r78 r105 r16 r58 L38_0) rfl hE mixed (by kernel_rfl) (by kernel_rfl) (AllLoops.of_list (l:=[(loopAt (bodyOf Tryz.f38) 0)]) (by kernel_rfl) (.one (by kernel_rfl) h0 trivial)) (s38 r78 r105 r16 r58 L38_0)
abbrev i6:Ts:=[.v (.sl false .b)]
abbrev o6:Ts:=[.v (.bool)]
abbrev F6:=FT i6 o6
abbrev g6:=mkG 6 i6 o6
noncomputable def m6 (c27:F27) (c38:F38) (c23:F23) (c26:F26) (c36:F36) (c12:F12) (c35:F35) (c37:F37) (y:PTup i6):Option (PTup o6×BTup i6):=
  (c12 y).bind fun r0=>
  bif r0.1.1 then (some ((true,()),()))
  else (c35 y).bind fun r1=>
  (c36 (r1.1.1,(r1.1.2.1,((1:Int),())))).bind fun r2=>
  (c36 (r1.1.1,(r1.1.2.1,((16:Int),())))).bind fun r3=>
  (c37 (r1.1.1,(r1.1.2.1,((1:Int),())))).bind fun r4=>
  bif (!(r2.1.2.1==r4.1.2.1))then no
  else bif (!(r3.1.2.1==r4.1.2.1))then no
  else bif (!r2.1.2.1)then (some (((eqI (lenI r2.1.1.2.2.1) 0),()),()))
  else (c38 (r2.1.1,((40:Int),()))).bind fun r5=>
  (c38 (r3.1.1,((40:Int),()))).bind fun r6=>
  bif (eqI r5.1.2.1 r6.1.2.1)then ((c23 (r5.1.1,())).bind fun r7=>
   (c27 (r7.1.1,())).bind fun r8=>
   (c23 (r6.1.1,())).bind fun r9=>
   (c27 (r9.1.1,())).bind fun r10=>
   (c26 (r8.1.1,(r10.1.1,()))).bind fun r11=>
   some (r11.1,()))
  else no
theorem s6 (c27:F27) (c38:F38) (c23:F23) (c26:F26) (c36:F36) (c12:F12) (c35:F35) (c37:F37) (y):TE [g27 c27,g38 c38,g23 c23,g26 c26,g36 c36,g12 c12,g35 c35,g37 c37] Tryz.f6 i6 o6 y=m6 c27 c38 c23 c26 c36 c12 c35 c37 y:=by kernel_rfl
noncomputable def r6:F6:=m6 r27 r38 r23 r26 r36 r12 r35 r37
theorem k6:KO (g6 r6):=fk (s6 r27 r38 r23 r26 r36 r12 r35 r37) ⟨k27,k38,k23,k26,k36,k12,k35,k37,⟨⟩⟩ (by kernel_rfl)
end Go.Proofs.YtgpifihakjdfeaaGreat.Plain
