/- Plain functions that the program's functions answer as; their contracts. Printed by a program of the proofs' writer. No condition. -/
import Derived.Test.YtgpifihakjdfeaaGreatW5
import Derived.KernelRfl
import Derived.Test.YtgpifihakjdfeaaGreatFn1
set_option linter.unusedVariables false
set_option linter.unusedSimpArgs false
set_option maxRecDepth 100000
namespace Go.Proofs.YtgpifihakjdfeaaGreat.Plain
open Go Go.Tev
abbrev i14:Ts:=[.a q11, .v (.sl false .i)]
abbrev o14:Ts:=[.a q12, .v (.int .i64)]
abbrev F14:=FT i14 o14
abbrev g14:=mkG 14 i14 o14
abbrev lc14_0:Ts:=[.v (.sl false .i), .v (.int .i64)]
abbrev lb14_0:Ts:=[.p [.sl false .n, .sl false .i, .sl true .i, .int .i64, .int .i64, .int .i64, .int .i64, .int .i64, .bool, .bool, .bool, .bool, .bool, .int .i64, .int .i64, .bool, .int .i64, .bool, .int .i64, .int .i64, .sl true .i, .int .i64, .int .i64, .int .i64, .int .i64, .int .i64, .bool, .sl true .i, .sl true .i, .int .i64, .sl true .t, .sl true .n, .int .i64, .int .i64, .int .i64, .int .i64, .int .i64, .bool, .bool, .int .i64, .sl true .t, .sl true .i]]
abbrev lv14_0:Ts:=[.v (.int .i64), .v (.int .i64)]
abbrev lr14_0:Ts:=[]
abbrev R14_0:=Option (Sum (PTup lv14_0) (PTup lr14_0)×BTup lb14_0)
abbrev B14_0:=PTup lb14_0→PTup lv14_0→R14_0
abbrev A14_0:=PTup lc14_0→B14_0
noncomputable def w14_0 (c59:F59) (c16:F16) (c58:F58) (c60:F60) (again:B14_0) (x:PTup lc14_0) (y:PTup lb14_0) (z:PTup lv14_0):R14_0:=
  bif (ltI z.2.1 x.2.1)then (bif (leI 0 z.2.1)then (bif (ltI z.2.1 (lenI x.1))then ((c59 (y.1,((rdE .i x.1 z.2.1),()))).bind fun r0=>
     (c60 r0.1).bind fun r1=>
     again ((y.1.1,(y.1.2.1,r0.2.1.2.2)),()) ((wI (z.1+r1.1.1)),((wI (z.2.1+1)),())))
    else none)
   else none)
  else some ((Sum.inl z),(y.1,()))
noncomputable def e14_0 (l:A14_0):LoopE:=⟨[21,22],lc14_0,[6],lb14_0,[7,23],lv14_0,[],lr14_0,0,[],l⟩
noncomputable def m14 (c59:F59) (c16:F16) (c58:F58) (c60:F60) (l0:A14_0) (y:PTup i14):Option (PTup o14×BTup i14):=
  (c16 (y.1,())).bind fun r0=>
  bif (!r0.1.1)then (some ((([],([],([],((0:Int),((0:Int),((0:Int),((0:Int),((0:Int),(false,(false,(false,(false,(false,((0:Int),((0:Int),(false,((0:Int),(false,((0:Int),((0:Int),([],((0:Int),((0:Int),((0:Int),((0:Int),((0:Int),(false,([],([],((0:Int),([],([],((0:Int),((0:Int),((0:Int),((0:Int),((0:Int),(false,(false,((0:Int),([],([],())))))))))))))))))))))))))))))))))))))))))),((-(1:Int)),())),()))
  else (c58 (y.1,())).bind fun r1=>
  bif (ltI 3000 (lenI y.2.1))then (some ((r1.1.1,((-(1:Int)),())),()))
  else (l0 (y.2.1,((lenI y.2.1),())) (r1.1.1,()) ((0:Int),((0:Int),()))).bind fun r2=>
  sumElim r2.1 (fun r3=>some (((r1.1.1.1,(r1.1.1.2.1,r2.2.1.2.2)),(r3.1,())),()))
  (fun r3=>some ((([],([],([],((0:Int),((0:Int),((0:Int),((0:Int),((0:Int),(false,(false,(false,(false,(false,((0:Int),((0:Int),(false,((0:Int),(false,((0:Int),((0:Int),([],((0:Int),((0:Int),((0:Int),((0:Int),((0:Int),(false,([],([],((0:Int),([],([],((0:Int),((0:Int),((0:Int),((0:Int),((0:Int),(false,(false,((0:Int),([],([],())))))))))))))))))))))))))))))))))))))))))),((0:Int),())),()))
noncomputable def E14 (c59:F59) (c16:F16) (c58:F58) (c60:F60) (l0:A14_0):CEnv:=⟨⟨Tryz.prog,fnsL [g59 c59,g16 c16,g58 c58,g60 c60]⟩,loopsL [(8,e14_0 l0)]⟩
theorem t14_0 (c59:F59) (c16:F16) (c58:F58) (c60:F60) (l0:A14_0) (again) (x y z):loopRound (E14 c59 c16 c58 c60 l0) (loopAt (bodyOf Tryz.f14) 0) (e14_0 l0) Tryz.f14.ntmps again x y z=w14_0 c59 c16 c58 c60 again x y z:=by kernel_rfl
noncomputable def n14_0 (c59:F59) (c16:F16) (c58:F58) (c60:F60):Nat→A14_0
  |0,_,_,_=>none
  |n+1,x,y,z=>w14_0 c59 c16 c58 c60 (fun y z=>n14_0 c59 c16 c58 c60 n x y z) x y z
theorem s14 (c59:F59) (c16:F16) (c58:F58) (c60:F60) (l0:A14_0) (y):tevF (E14 c59 c16 c58 c60 l0) Tryz.f14 i14 o14 y=m14 c59 c16 c58 c60 l0 y:=by kernel_rfl
noncomputable def L14_0:A14_0:=n14_0 r59 r16 r58 r60 fuel
noncomputable def r14:F14:=m14 r59 r16 r58 r60 L14_0
theorem k14:KO (g14 r14):=by
  have hE: ∀g f,(E14 r59 r16 r58 r60 L14_0).env.fns g=some f→CallOk Tryz.prog g f:=fnsL_ok ⟨k59,k16,k58,k60,⟨⟩⟩
  have h0:LoopOk Tryz.prog Tryz.f14.ntmps (loopAt (bodyOf Tryz.f14) 0) (e14_0 L14_0):=lp_ok (E:=E14 r59 r16 r58 r60 L14_0) rfl hE mixed (AllLoops.of_list (l:=[]) (by kernel_rfl) trivial) (n14_0 r59 r16 r58 r60) (fun _ _ _=>rfl) (fun n x y z=>t14_0 r59 r16 r58 r60 L14_0 _ x y z) rfl
  exact fn_ok (E:=E14 r59 r16 r58 r60 L14_0) rfl hE mixed (by kernel_rfl) (by kernel_rfl) (AllLoops.of_list (l:=[(loopAt (bodyOf Tryz.f14) 0)]) (by kernel_rfl) (.one (by kernel_rfl) h0 trivial)) (s14 r59 r16 r58 r60 L14_0)
abbrev i15:Ts:=[.a q11, .v (.sl false .i)]
abbrev o15:Ts:=[.a q12, .v (.int .i64)]
abbrev F15:=FT i15 o15
abbrev g15:=mkG 15 i15 o15
abbrev lc15_0:Ts:=[.v (.sl false .i)]
abbrev lb15_0:Ts:=[.p q12]
abbrev lv15_0:Ts:=[.v (.int .i64), .v (.int .i64)]
abbrev lr15_0:Ts:=[]
abbrev R15_0:=Option (Sum (PTup lv15_0) (PTup lr15_0)×BTup lb15_0)
abbrev B15_0:=PTup lb15_0→PTup lv15_0→R15_0
abbrev A15_0:=PTup lc15_0→B15_0
noncomputable def w15_0 (c51:F51) (c61:F61) (c62:F62) (c63:F63) (again:B15_0) (x:PTup lc15_0) (y:PTup lb15_0) (z:PTup lv15_0):R15_0:=
  bif (ltI z.2.1 (lenI x.1))then (bif (leI 0 z.2.1)then (bif (ltI z.2.1 (lenI x.1))then ((c51 (y.1,((rdE .i x.1 z.2.1),()))).bind fun r0=>
     (c63 r0.1.2).bind fun r1=>
     again (r0.1.1,()) ((wI (z.1+r1.1.1)),((wI (z.2.1+1)),())))
    else none)
   else none)
  else some ((Sum.inl z),(y.1,()))
noncomputable def e15_0 (l:A15_0):LoopE:=⟨[1],lc15_0,[6],lb15_0,[7,8],lv15_0,[],lr15_0,0,[],l⟩
noncomputable def m15 (c51:F51) (c61:F61) (c62:F62) (c63:F63) (l0:A15_0) (y:PTup i15):Option (PTup o15×BTup i15):=
  (c61 (y.1,())).bind fun r0=>
  bif (!r0.1.1)then (some ((([],([],([],((0:Int),((0:Int),((0:Int),((0:Int),((0:Int),(false,(false,(false,(false,(false,((0:Int),((0:Int),(false,((0:Int),(false,((0:Int),((0:Int),([],((0:Int),((0:Int),((0:Int),((0:Int),((0:Int),(false,([],([],((0:Int),([],([],((0:Int),((0:Int),((0:Int),((0:Int),((0:Int),(false,(false,((0:Int),([],([],())))))))))))))))))))))))))))))))))))))))))),((-(1:Int)),())),()))
  else (c62 (y.1,())).bind fun r1=>
  bif (ltI 3000 (lenI y.2.1))then (some ((r1.1.1,((-(1:Int)),())),()))
  else (l0 y.2 (r1.1.1,()) ((0:Int),((0:Int),()))).bind fun r2=>
  sumElim r2.1 (fun r3=>some ((r2.2.1,(r3.1,())),()))
  (fun r3=>some ((([],([],([],((0:Int),((0:Int),((0:Int),((0:Int),((0:Int),(false,(false,(false,(false,(false,((0:Int),((0:Int),(false,((0:Int),(false,((0:Int),((0:Int),([],((0:Int),((0:Int),((0:Int),((0:Int),((0:Int),(false,([],([],((0:Int),([],([],((0:Int),((0:Int),((0:Int),((0:Int),((0:Int),(false,(false,((0:Int),([],([],())))))))))))))))))))))))))))))))))))))))))),((0:Int),())),()))
noncomputable def E15 (c51:F51) (c61:F61) (c62:F62) (c63:F63) (l0:A15_0):CEnv:=⟨⟨Tryz.prog,fnsL [g51 c51,g61 c61,g62 c62,g63 c63]⟩,loopsL [(8,e15_0 l0)]⟩
theorem t15_0 (c51:F51) (c61:F61) (c62:F62) (c63:F63) (l0:A15_0) (again) (x y z):loopRound (E15 c51 c61 c62 c63 l0) (loopAt (bodyOf Tryz.f15) 0) (e15_0 l0) Tryz.f15.ntmps again x y z=w15_0 c51 c61 c62 c63 again x y z:=by kernel_rfl
noncomputable def n15_0 (c51:F51) (c61:F61) (c62:F62) (c63:F63):Nat→A15_0
  |0,_,_,_=>none
  |n+1,x,y,z=>w15_0 c51 c61 c62 c63 (fun y z=>n15_0 c51 c61 c62 c63 n x y z) x y z
theorem s15 (c51:F51) (c61:F61) (c62:F62) (c63:F63) (l0:A15_0) (y):tevF (E15 c51 c61 c62 c63 l0) Tryz.f15 i15 o15 y=m15 c51 c61 c62 c63 l0 y:=by kernel_rfl
noncomputable def L15_0:A15_0:=n15_0 r51 r61 r62 r63 fuel
noncomputable def r15:F15:=m15 r51 r61 r62 r63 L15_0
theorem k15:KO (g15 r15):=by
  have hE: ∀g f,(E15 r51 r61 r62 r63 L15_0).env.fns g=some f→CallOk Tryz.prog g f:=fnsL_ok ⟨k51,k61,k62,k63,⟨⟩⟩
  have h0:LoopOk Tryz.prog Tryz.f15.ntmps (loopAt (bodyOf Tryz.f15) 0) (e15_0 L15_0):=lp_ok (E:=E15 r51 r61 r62 r63 L15_0) rfl hE mixed (AllLoops.of_list (l:=[]) (by kernel_rfl) trivial) (n15_0 r51 r61 r62 r63) (fun _ _ _=>rfl) (fun n x y z=>t15_0 r51 r61 r62 r63 L15_0 _ x y z) rfl
  exact fn_ok (E:=E15 r51 r61 r62 r63 L15_0) rfl hE mixed (by kernel_rfl) (by kernel_rfl) (AllLoops.of_list (l:=[(loopAt (bodyOf Tryz.f15) 0)]) (by kernel_rfl) (.one (by kernel_rfl) h0 trivial)) (s15 r51 r61 r62 r63 L15_0)
abbrev i73:Ts:=[.a q11]
abbrev o73:Ts:=[.v (.bool)]
abbrev F73:=FT i73 o73
abbrev g73:=mkG 73 i73 o73
noncomputable def m73 (c16:F16) (y:PTup i73):Option (PTup o73×BTup i73):=
  (c16 (y.1,())).bind fun r0=>
  bif r0.1.1 then (some (((leI y.1.2.2.2.2.2.2.2.2.2.2.2.2.2.2.2.2.2.2.2.1 3000),()),()))
  else no
theorem s73 (c16:F16) (y):TE [g16 c16] Tryz.f73 i73 o73 y=m73 c16 y:=by kernel_rfl
noncomputable def r73:F73:=m73 r16
theorem k73:KO (g73 r73):=fk (s73 r16) ⟨k16,⟨⟩⟩ (by kernel_rfl)
abbrev i80:Ts:=[]
abbrev o80:Ts:=[.a q2]
abbrev F80:=FT i80 o80
abbrev g80:=mkG 80 i80 o80
noncomputable def m80 (y:PTup i80):Option (PTup o80×BTup i80):=
  some ((((List.replicate (Int.toNat (512:Int)) (0:Int)),((0:Int),())),()),())
theorem s80 (y):TE [] Tryz.f80 i80 o80 y=m80 y:=by kernel_rfl
noncomputable def r80:F80:=m80
theorem k80:KO (g80 r80):=fk (s80) trivial (by kernel_rfl)
abbrev i208:Ts:=[.a q1, .a q3, .v (.int .i64)]
abbrev o208:Ts:=[.v (.int .i64)]
abbrev F208:=FT i208 o208
abbrev g208:=mkG 208 i208 o208
noncomputable def m208 (c64:F64) (c175:F175) (y:PTup i208):Option (PTup o208×BTup i208):=
  (c64 (y.1,(y.2.1,()))).bind fun r0=>
  bif (!r0.1.1)then (some (((0:Int),()),()))
  else (c175 y).bind fun r1=>
  some (r1.1,())
theorem s208 (c64:F64) (c175:F175) (y):TE [g64 c64,g175 c175] Tryz.f208 i208 o208 y=m208 c64 c175 y:=by kernel_rfl
noncomputable def r208:F208:=m208 r64 r175
theorem k208:KO (g208 r208):=fk (s208 r64 r175) ⟨k64,k175,⟨⟩⟩ (by kernel_rfl)
abbrev i147:Ts:=[.a q1, .a q3, .v (.int .i64)]
abbrev o147:Ts:=[.v (.int .i64)]
abbrev F147:=FT i147 o147
abbrev g147:=mkG 147 i147 o147
noncomputable def m147 (c207:F207) (c208:F208) (y:PTup i147):Option (PTup o147×BTup i147):=
  (c208 y).bind fun r0=>
  (c208 (y.1,(y.2.1,((wI (y.2.2.1+1)),())))).bind fun r1=>
  (c207 (r0.1.1,r1.1)).bind fun r2=>
  some (r2.1,())
theorem s147 (c207:F207) (c208:F208) (y):TE [g207 c207,g208 c208] Tryz.f147 i147 o147 y=m147 c207 c208 y:=by kernel_rfl
noncomputable def r147:F147:=m147 r207 r208
theorem k147:KO (g147 r147):=fk (s147 r207 r208) ⟨k207,k208,⟨⟩⟩ (by kernel_rfl)
abbrev i81:Ts:=[.a q1]
abbrev o81:Ts:=[.a q4]
abbrev F81:=FT i81 o81
abbrev g81:=mkG 81 i81 o81
noncomputable def m81 (c80:F80) (c147:F147) (y:PTup i81):Option (PTup o81×BTup i81):=
  (c80 ()).bind fun r0=>
  (c147 (y.1,(r0.1.1,((65532:Int),())))).bind fun r1=>
  some ((((0:Int),((0:Int),((255:Int),(r1.1.1,(false,(false,(false,(true,())))))))),()),())
theorem s81 (c80:F80) (c147:F147) (y):TE [g80 c80,g147 c147] Tryz.f81 i81 o81 y=m81 c80 c147 y:=by kernel_rfl
noncomputable def r81:F81:=m81 r80 r147
theorem k81:KO (g81 r81):=fk (s81 r80 r147) ⟨k80,k147,⟨⟩⟩ (by kernel_rfl)
abbrev i82:Ts:=[]
abbrev o82:Ts:=[.a q5]
abbrev F82:=FT i82 o82
abbrev g82:=mkG 82 i82 o82
noncomputable def m82 (y:PTup i82):Option (PTup o82×BTup i82):=
  some ((((0:Int),((0:Int),((0:Int),((0:Int),((0:Int),(false,((List.replicate (Int.toNat (16:Int)) (0:Int)),([],())))))))),()),())
theorem s82 (y):TE [] Tryz.f82 i82 o82 y=m82 y:=by kernel_rfl
noncomputable def r82:F82:=m82
theorem k82:KO (g82 r82):=fk (s82) trivial (by kernel_rfl)
abbrev i49:Ts:=[.a [.sl false .n, .sl false .i, .sl false .i, .int .i64, .int .i64, .int .i64, .int .i64, .int .i64, .bool, .bool, .bool, .bool, .int .i64, .int .i64, .int .i64, .int .i64, .int .i64, .bool, .sl false .i, .sl false .i, .int .i64, .int .i64, .int .i64, .int .i64, .int .i64, .bool, .bool, .bool, .int .i64, .bool, .int .i64, .sl false .n, .sl false .i, .sl false .i]]
abbrev o49:Ts:=[.v (.bool)]
abbrev F49:=FT i49 o49
abbrev g49:=mkG 49 i49 o49
noncomputable def m49 (c122:F122) (c66:F66) (c64:F64) (c65:F65) (c121:F121) (c123:F123) (c69:F69) (c124:F124) (c71:F71) (y:PTup i49):Option (PTup o49×BTup i49):=
  let a0:=y.1;let a1:=a0.2;let a2:=a1.2;let a3:=a2.2;let a4:=a3.2;let a5:=a4.2;let a6:=a5.2;let a7:=a6.2;let a8:=a7.2;let a9:=a8.2;let a10:=a9.2;let a11:=a10.2;let a12:=a11.2;let a13:=a12.2;let a14:=a13.2;let a15:=a14.2;let a16:=a15.2;let a17:=a16.2;let a18:=a17.2;let a19:=a18.2;let a20:=a19.2;let a21:=a20.2;let a22:=a21.2.2;let a23:=a22.2.2;let a24:=a23.2.2.2;(c64 ((a0.1,()),((a2.1,(a3.1,())),()))).bind fun r0=>
  bif r0.1.1 then ((c65 (a1.1,())).bind fun r1=>
   bif r1.1.1 then ((c66 ((a4.1,(a5.1,(a6.1,(a7.1,(a8.1,(a9.1,(a10.1,(a11.1,())))))))),())).bind fun r2=>
    bif r2.1.1 then ((c121 ((a12.1,(a13.1,(a14.1,(a15.1,(a16.1,(a17.1,(a18.1,(a19.1,())))))))),())).bind fun r3=>
     bif r3.1.1 then ((c122 ((a20.1,(a21.1,(a21.2.1,(a22.1,(a22.2.1,(a23.1,(a23.2.1,()))))))),())).bind fun r4=>
      bif r4.1.1 then ((c69 (a24.1,())).bind fun r5=>
       bif r5.1.1 then (bif (eqI a20.1 a12.1)then ((c71 (a24.2.2.1,((0:Int),(a12.1,())))).bind fun r6=>
         bif r6.1.1 then ((c123 (a24.2.2.2.1,(a12.1,()))).bind fun r7=>
          bif r7.1.1 then ((c124 (a24.2.2.2.2.1,(a12.1,()))).bind fun r8=>
           some (r8.1,()))
          else no)
         else no)
        else no)
       else no)
      else no)
     else no)
    else no)
   else no)
  else no
theorem s49 (c122:F122) (c66:F66) (c64:F64) (c65:F65) (c121:F121) (c123:F123) (c69:F69) (c124:F124) (c71:F71) (y):TE [g122 c122,g66 c66,g64 c64,g65 c65,g121 c121,g123 c123,g69 c69,g124 c124,g71 c71] Tryz.f49 i49 o49 y=m49 c122 c66 c64 c65 c121 c123 c69 c124 c71 y:=by kernel_rfl
noncomputable def r49:F49:=m49 r122 r66 r64 r65 r121 r123 r69 r124 r71
theorem k49:KO (g49 r49):=fk (s49 r122 r66 r64 r65 r121 r123 r69 r124 r71) ⟨k122,k66,k64,k65,k121,k123,k69,k124,k71,⟨⟩⟩ (by kernel_rfl)
abbrev i24:Ts:=[.a q1, .v (.sl false .i)]
abbrev o24:Ts:=[.a [.sl true .n, .sl true .i, .sl true .i, .int .i64, .int .i64, .int .i64, .int .i64, .int .i64, .bool, .bool, .bool, .bool, .int .i64, .int .i64, .int .i64, .int .i64, .int .i64, .bool, .sl true .i, .sl true .i, .int .i64, .int .i64, .int .i64, .int .i64, .int .i64, .bool, .bool, .bool, .int .i64, .bool, .int .i64, .sl true .n, .sl true .i, .sl true .i], .v (.bool)]
abbrev F24:=FT i24 o24
abbrev g24:=mkG 24 i24 o24
noncomputable def m24 (c81:F81) (c49:F49) (c80:F80) (c82:F82) (c79:F79) (c75:F75) (y:PTup i24):Option (PTup o24×BTup i24):=
  (c79 (y.1,())).bind fun r0=>
  (c75 y.2).bind fun r1=>
  (c80 ()).bind fun r2=>
  (c81 (y.1,())).bind fun r3=>
  (c82 ()).bind fun r4=>
  (c49 ((r0.1.1.1,(r1.1.1,(r2.1.1.1,(r2.1.1.2.1,(r3.1.1.1,(r3.1.1.2.1,(r3.1.1.2.2.1,(r3.1.1.2.2.2.1,(r3.1.1.2.2.2.2.1,(r3.1.1.2.2.2.2.2.1,(r3.1.1.2.2.2.2.2.2.1,(r3.1.1.2.2.2.2.2.2.2.1,(r4.1.1.1,(r4.1.1.2.1,(r4.1.1.2.2.1,(r4.1.1.2.2.2.1,(r4.1.1.2.2.2.2.1,(r4.1.1.2.2.2.2.2.1,(r4.1.1.2.2.2.2.2.2.1,(r4.1.1.2.2.2.2.2.2.2.1,((0:Int),((0:Int),((0:Int),((0:Int),((0:Int),(false,(false,(false,((0:Int),(false,((0:Int),([],([],([],())))))))))))))))))))))))))))))))))),())).bind fun r5=>
  bif (!r5.1.1)then (some ((([],([],([],((0:Int),((0:Int),((0:Int),((0:Int),((0:Int),(false,(false,(false,(false,((0:Int),((0:Int),((0:Int),((0:Int),((0:Int),(false,([],([],((0:Int),((0:Int),((0:Int),((0:Int),((0:Int),(false,(false,(false,((0:Int),(false,((0:Int),([],([],([],())))))))))))))))))))))))))))))))))),(false,())),()))
  else some (((r0.1.1.1,(r1.1.1,(r2.1.1.1,(r2.1.1.2.1,(r3.1.1.1,(r3.1.1.2.1,(r3.1.1.2.2.1,(r3.1.1.2.2.2.1,(r3.1.1.2.2.2.2.1,(r3.1.1.2.2.2.2.2.1,(r3.1.1.2.2.2.2.2.2.1,(r3.1.1.2.2.2.2.2.2.2.1,(r4.1.1.1,(r4.1.1.2.1,(r4.1.1.2.2.1,(r4.1.1.2.2.2.1,(r4.1.1.2.2.2.2.1,(r4.1.1.2.2.2.2.2.1,(r4.1.1.2.2.2.2.2.2.1,(r4.1.1.2.2.2.2.2.2.2.1,((0:Int),((0:Int),((0:Int),((0:Int),((0:Int),(false,(false,(false,((0:Int),(false,((0:Int),([],([],([],())))))))))))))))))))))))))))))))))),(true,())),())
theorem s24 (c81:F81) (c49:F49) (c80:F80) (c82:F82) (c79:F79) (c75:F75) (y):TE [g81 c81,g49 c49,g80 c80,g82 c82,g79 c79,g75 c75] Tryz.f24 i24 o24 y=m24 c81 c49 c80 c82 c79 c75 y:=by kernel_rfl
noncomputable def r24:F24:=m24 r81 r49 r80 r82 r79 r75
theorem k24:KO (g24 r24):=fk (s24 r81 r49 r80 r82 r79 r75) ⟨k81,k49,k80,k82,k79,k75,⟨⟩⟩ (by kernel_rfl)
abbrev i83:Ts:=[.a [.sl false .n, .sl false .i, .sl false .i, .int .i64, .int .i64, .int .i64, .int .i64, .int .i64, .bool, .bool, .bool, .bool, .int .i64, .int .i64, .int .i64, .int .i64, .int .i64, .bool, .sl false .i, .sl false .i, .int .i64, .int .i64, .int .i64, .int .i64, .int .i64, .bool, .bool, .bool, .int .i64, .bool, .int .i64, .sl false .n, .sl false .i, .sl false .i]]
abbrev o83:Ts:=[.a [.sl true .n, .sl true .i, .sl true .i, .int .i64, .int .i64, .int .i64, .int .i64, .int .i64, .bool, .bool, .bool, .bool, .int .i64, .int .i64, .int .i64, .int .i64, .int .i64, .bool, .sl true .i, .sl true .i, .int .i64, .int .i64, .int .i64, .int .i64, .int .i64, .bool, .bool, .bool, .int .i64, .bool, .int .i64, .sl true .n, .sl true .i, .sl true .i]]
abbrev F83:=FT i83 o83
abbrev g83:=mkG 83 i83 o83
noncomputable def m83 (c74:F74) (c79:F79) (c75:F75) (c131:F131) (c148:F148) (y:PTup i83):Option (PTup o83×BTup i83):=
  let a0:=y.1;let a1:=a0.2;let a2:=a1.2;let a3:=a2.2;let a4:=a3.2;let a5:=a4.2;let a6:=a5.2;let a7:=a6.2;let a8:=a7.2;let a9:=a8.2;let a10:=a9.2;let a11:=a10.2;let a12:=a11.2;let a13:=a12.2;let a14:=a13.2;let a15:=a14.2;let a16:=a15.2;let a17:=a16.2;let a18:=a17.2;let a19:=a18.2;let a20:=a19.2;let a21:=a20.2;let a22:=a21.2;let a23:=a22.2;let a24:=a23.2;let a25:=a24.2.2;let a26:=a25.2.2;(c79 ((a0.1,()),())).bind fun r0=>
  (c75 (a1.1,())).bind fun r1=>
  (c131 ((a2.1,(a3.1,())),())).bind fun r2=>
  (c148 ((a12.1,(a13.1,(a14.1,(a15.1,(a16.1,(a17.1,(a18.1,(a19.1,())))))))),())).bind fun r3=>
  (c74 (a26.2.2.2.1,())).bind fun r4=>
  (c75 (a26.2.2.2.2.1,())).bind fun r5=>
  (c75 a26.2.2.2.2.2).bind fun r6=>
  some (((r0.1.1.1,(r1.1.1,(r2.1.1.1,(r2.1.1.2.1,(a4.1,(a5.1,(a6.1,(a7.1,(a8.1,(a9.1,(a10.1,(a11.1,(r3.1.1.1,(r3.1.1.2.1,(r3.1.1.2.2.1,(r3.1.1.2.2.2.1,(r3.1.1.2.2.2.2.1,(r3.1.1.2.2.2.2.2.1,(r3.1.1.2.2.2.2.2.2.1,(r3.1.1.2.2.2.2.2.2.2.1,(a20.1,(a21.1,(a22.1,(a23.1,(a24.1,(a24.2.1,(a25.1,(a25.2.1,(a26.1,(a26.2.1,(a26.2.2.1,(r4.1.1,(r5.1.1,r6.1))))))))))))))))))))))))))))))))),()),())
theorem s83 (c74:F74) (c79:F79) (c75:F75) (c131:F131) (c148:F148) (y):TE [g74 c74,g79 c79,g75 c75,g131 c131,g148 c148] Tryz.f83 i83 o83 y=m83 c74 c79 c75 c131 c148 y:=by kernel_rfl
noncomputable def r83:F83:=m83 r74 r79 r75 r131 r148
theorem k83:KO (g83 r83):=fk (s83 r74 r79 r75 r131 r148) ⟨k74,k79,k75,k131,k148,⟨⟩⟩ (by kernel_rfl)
abbrev i151:Ts:=[.p [.sl false .n, .sl false .i, .sl true .i, .int .i64, .int .i64, .int .i64, .int .i64, .int .i64, .bool, .bool, .bool, .bool, .int .i64, .int .i64, .int .i64, .int .i64, .int .i64, .bool, .sl false .i, .sl false .i, .int .i64, .int .i64, .int .i64, .int .i64, .int .i64, .bool, .bool, .bool, .int .i64, .bool, .int .i64, .sl false .n, .sl false .i, .sl false .i], .v (.int .i64)]
abbrev o151:Ts:=[]
abbrev F151:=FT i151 o151
abbrev g151:=mkG 151 i151 o151
noncomputable def m151 (c210:F210) (c207:F207) (c175:F175) (y:PTup i151):Option (PTup o151×BTup i151):=
  (c175 ((y.1.1,()),((y.1.2.2.1,(y.1.2.2.2.1,())),y.2))).bind fun r0=>
  (c175 ((y.1.1,()),((y.1.2.2.1,(y.1.2.2.2.1,())),((wI (y.2.1+1)),())))).bind fun r1=>
  (c207 (r0.1.1,r1.1)).bind fun r2=>
  (c210 ((y.1.2.2.1,(y.1.2.2.2.1,())),((y.1.2.2.2.2.1,(y.1.2.2.2.2.2.1,(y.1.2.2.2.2.2.2.1,(y.1.2.2.2.2.2.2.2.1,(y.1.2.2.2.2.2.2.2.2.1,(y.1.2.2.2.2.2.2.2.2.2.1,(y.1.2.2.2.2.2.2.2.2.2.2.1,(y.1.2.2.2.2.2.2.2.2.2.2.2.1,())))))))),r2.1))).bind fun r3=>
  some ((),((y.1.1,(y.1.2.1,(r3.2.1.1,(r3.2.1.2.1,(r3.2.2.1.1,(r3.2.2.1.2.1,(r3.2.2.1.2.2.1,(r3.2.2.1.2.2.2.1,(r3.2.2.1.2.2.2.2.1,(r3.2.2.1.2.2.2.2.2.1,(r3.2.2.1.2.2.2.2.2.2.1,(r3.2.2.1.2.2.2.2.2.2.2.1,y.1.2.2.2.2.2.2.2.2.2.2.2.2)))))))))))),()))
theorem s151 (c210:F210) (c207:F207) (c175:F175) (y):TE [g210 c210,g207 c207,g175 c175] Tryz.f151 i151 o151 y=m151 c210 c207 c175 y:=by kernel_rfl
noncomputable def r151:F151:=m151 r210 r207 r175
theorem k151:KO (g151 r151):=fk (s151 r210 r207 r175) ⟨k210,k207,k175,⟨⟩⟩ (by kernel_rfl)
abbrev i107:Ts:=[.p [.sl false .n, .sl false .i, .sl false .i, .int .i64, .int .i64, .int .i64, .int .i64, .int .i64, .bool, .bool, .bool, .bool, .int .i64, .int .i64, .int .i64, .int .i64, .int .i64, .bool, .sl false .i, .sl false .i, .int .i64, .int .i64, .int .i64, .int .i64, .int .i64, .bool, .bool, .bool, .int .i64, .bool, .int .i64, .sl false .n, .sl false .i, .sl true .i], .v (.int .i64)]
abbrev o107:Ts:=[.v (.int .i64)]
abbrev F107:=FT i107 o107
abbrev g107:=mkG 107 i107 o107
noncomputable def m107 (c172:F172) (c173:F173) (c174:F174) (c42:F42) (c175:F175) (y:PTup i107):Option (PTup o107×BTup i107):=
  let a0:=y.1;let a1:=a0.2;let a2:=a1.2;let a3:=a2.2;let a4:=a3.2;let a5:=a4.2;let a6:=a5.2;let a7:=a6.2;let a8:=a7.2;let a9:=a8.2;let a10:=a9.2;let a11:=a10.2;let a12:=a11.2;let a13:=a12.2;let a14:=a13.2;let a15:=a14.2;let a16:=a15.2;let a17:=a16.2;let a18:=a17.2;let a19:=a18.2;let a20:=a19.2;let a21:=a20.2;let a22:=a21.2;let a23:=a22.2;let a24:=a23.2;let a25:=a24.2;let a26:=a25.2;let a27:=a26.2;let a28:=a27.2;let a29:=a28.2;let a30:=a29.2;let a31:=a30.2;let a32:=a31.2.2;(c42 y.2).bind fun r0=>
  bif (eqI r0.1.1 2)then ((c172 ((a12.1,(a13.1,(a14.1,(a15.1,(a16.1,(a17.1,(a18.1,(a19.1,())))))))),r0.1.2)).bind fun r1=>
   bif (leN ((List.length a32.1)+(List.length (r1.1.1::[]))) (E.most .i))then (some (r1.1,((a0.1,(a1.1,(a2.1,(a3.1,(a4.1,(a5.1,(a6.1,(a7.1,(a8.1,(a9.1,(a10.1,(a11.1,(r1.2.1.1,(r1.2.1.2.1,(r1.2.1.2.2.1,(r1.2.1.2.2.2.1,(r1.2.1.2.2.2.2.1,(r1.2.1.2.2.2.2.2.1,(a18.1,(a19.1,(a20.1,(a21.1,(a22.1,(a23.1,(a24.1,(a25.1,(a26.1,(a27.1,(a28.1,(a29.1,(a30.1,(a31.1,(a31.2.1,((a32.1++(r1.1.1::[])),())))))))))))))))))))))))))))))))))),())))
   else none)
  else bif (eqI r0.1.1 3)then ((c173 ((a20.1,(a21.1,(a22.1,(a23.1,(a24.1,(a25.1,(a26.1,()))))))),r0.1.2)).bind fun r1=>
   bif (leN ((List.length a32.1)+(List.length (r1.1.2.1::[]))) (E.most .i))then (some (r1.1.2,((a0.1,(a1.1,(a2.1,(a3.1,(a4.1,(a5.1,(a6.1,(a7.1,(a8.1,(a9.1,(a10.1,(a11.1,(a12.1,(a13.1,(a14.1,(a15.1,(a16.1,(a17.1,(a18.1,(a19.1,(r1.1.1.1,(r1.1.1.2.1,(r1.1.1.2.2.1,(r1.1.1.2.2.2.1,(r1.1.1.2.2.2.2.1,(r1.1.1.2.2.2.2.2.1,(r1.1.1.2.2.2.2.2.2.1,(a27.1,(a28.1,(a29.1,(a30.1,(a31.1,(a31.2.1,((a32.1++(r1.1.2.1::[])),())))))))))))))))))))))))))))))))))),())))
   else none)
  else bif (eqI r0.1.1 4)then ((c174 ((a27.1,(a28.1,())),(a1.1,(a12.1,())))).bind fun r1=>
   bif (leN ((List.length a32.1)+(List.length (r1.1.2.1::[]))) (E.most .i))then (some (r1.1.2,((a0.1,(a1.1,(a2.1,(a3.1,(a4.1,(a5.1,(a6.1,(a7.1,(a8.1,(a9.1,(a10.1,(a11.1,(a12.1,(a13.1,(a14.1,(a15.1,(a16.1,(a17.1,(a18.1,(a19.1,(a20.1,(a21.1,(a22.1,(a23.1,(a24.1,(a25.1,(a26.1,(r1.1.1.1,(r1.1.1.2.1,(a29.1,(a30.1,(a31.1,(a31.2.1,((a32.1++(r1.1.2.1::[])),())))))))))))))))))))))))))))))))))),())))
   else none)
  else bif (eqI r0.1.1 7)then (some (((0:Int),()),(a0,())))
  else (c175 ((a0.1,()),((a2.1,(a3.1,())),y.2))).bind fun r1=>
  some (r1.1,(a0,()))
theorem s107 (c172:F172) (c173:F173) (c174:F174) (c42:F42) (c175:F175) (y):TE [g172 c172,g173 c173,g174 c174,g42 c42,g175 c175] Tryz.f107 i107 o107 y=m107 c172 c173 c174 c42 c175 y:=by kernel_rfl
noncomputable def r107:F107:=m107 r172 r173 r174 r42 r175
theorem k107:KO (g107 r107):=fk (s107 r172 r173 r174 r42 r175) ⟨k172,k173,k174,k42,k175,⟨⟩⟩ (by kernel_rfl)
abbrev i119:Ts:=[.p [.sl false .n, .sl false .i, .sl true .i, .int .i64, .int .i64, .int .i64, .int .i64, .int .i64, .bool, .bool, .bool, .bool, .int .i64, .int .i64, .int .i64, .int .i64, .int .i64, .bool, .sl true .i, .sl false .i, .int .i64, .int .i64, .int .i64, .int .i64, .int .i64, .bool, .bool, .bool, .int .i64, .bool, .int .i64, .sl false .n, .sl false .i, .sl false .i], .v (.int .i64), .v (.int .i64)]
abbrev o119:Ts:=[]
abbrev R119:=Option (PTup o119×BTup i119)
abbrev F119:=PTup i119→R119
abbrev g119:=mkG 119 i119 o119
noncomputable def m119 (c187:F187) (c184:F184) (c185:F185) (c186:F186) (c42:F42) (y:PTup i119):R119:=
  let a0:=y.1;let a1:=a0.2;let a2:=a1.2;let a3:=a2.2;let a4:=a3.2;let a5:=a4.2;let a6:=a5.2;let a7:=a6.2;let a8:=a7.2;let a9:=a8.2;let a10:=a9.2;let a11:=a10.2;let a12:=a11.2;let a13:=a12.2;let a14:=a13.2;let a15:=a14.2;let a16:=a15.2;let a17:=a16.2;let a18:=a17.2;let a19:=a18.2;let a20:=a19.2;let a21:=a20.2;let a22:=a21.2;let a23:=a22.2;let a24:=a23.2;let a25:=a24.2.2;let X0:R119:=(c187 ((a2.1,(a3.1,())),((a0.1,()),y.2))).bind fun r1=>some ((),((a0.1,(a1.1,(r1.2.1.1,(r1.2.1.2.1,a4)))),()));(c42 (y.2.1,())).bind fun r0=>bif (eqI r0.1.1 2)then ((c184 ((a12.1,(a13.1,(a14.1,(a15.1,(a16.1,(a17.1,(a18.1,(a19.1,())))))))),(r0.1.2.1,y.2.2))).bind fun r1=>some ((),((a0.1,(a1.1,(a2.1,(a3.1,(a4.1,(a5.1,(a6.1,(a7.1,(a8.1,(a9.1,(a10.1,(a11.1,(r1.2.1.1,(r1.2.1.2.1,(r1.2.1.2.2.1,(r1.2.1.2.2.2.1,(r1.2.1.2.2.2.2.1,(r1.2.1.2.2.2.2.2.1,(r1.2.1.2.2.2.2.2.2.1,a19))))))))))))))))))),())))else bif (eqI r0.1.1 3)then ((c185 ((a20.1,(a21.1,(a22.1,(a23.1,(a24.1,(a24.2.1,(a25.1,()))))))),(r0.1.2.1,y.2.2))).bind fun r1=>some ((),((a0.1,(a1.1,(a2.1,(a3.1,(a4.1,(a5.1,(a6.1,(a7.1,(a8.1,(a9.1,(a10.1,(a11.1,(a12.1,(a13.1,(a14.1,(a15.1,(a16.1,(a17.1,(a18.1,(a19.1,(r1.1.1.1,(r1.1.1.2.1,(r1.1.1.2.2.1,(r1.1.1.2.2.2.1,(r1.1.1.2.2.2.2.1,(r1.1.1.2.2.2.2.2.1,(r1.1.1.2.2.2.2.2.2.1,a25.2))))))))))))))))))))))))))),())))else bif (eqI r0.1.1 4)then ((c186 ((a25.2.1,(a25.2.2.1,())),(a1.1,(a12.1,y.2.2)))).bind fun r1=>some ((),((a0.1,(a1.1,(a2.1,(a3.1,(a4.1,(a5.1,(a6.1,(a7.1,(a8.1,(a9.1,(a10.1,(a11.1,(a12.1,(a13.1,(a14.1,(a15.1,(a16.1,(a17.1,(a18.1,(a19.1,(a20.1,(a21.1,(a22.1,(a23.1,(a24.1,(a24.2.1,(a25.1,(r1.1.1.1,(r1.1.1.2.1,a25.2.2.2))))))))))))))))))))))))))))),())))else bif (eqI r0.1.1 1)then (bif (eqI r0.1.1 1)then X0 else some ((),(a0,())))else bif (eqI r0.1.1 5)then (bif (eqI r0.1.1 5)then X0 else some ((),(a0,())))else bif (eqI r0.1.1 6)then X0 else some ((),(a0,()))
theorem s119 (c187:F187) (c184:F184) (c185:F185) (c186:F186) (c42:F42) (y):TE [g187 c187,g184 c184,g185 c185,g186 c186,g42 c42] Tryz.f119 i119 o119 y=m119 c187 c184 c185 c186 c42 y:=by kernel_rfl
noncomputable def r119:F119:=m119 r187 r184 r185 r186 r42
theorem k119:KO (g119 r119):=fk (s119 r187 r184 r185 r186 r42) ⟨k187,k184,k185,k186,k42,⟨⟩⟩ (by kernel_rfl)
abbrev i152:Ts:=[.p [.sl false .n, .sl false .i, .sl true .i, .int .i64, .int .i64, .int .i64, .int .i64, .int .i64, .bool, .bool, .bool, .bool, .int .i64, .int .i64, .int .i64, .int .i64, .int .i64, .bool, .sl true .i, .sl false .i, .int .i64, .int .i64, .int .i64, .int .i64, .int .i64, .bool, .bool, .bool, .int .i64, .bool, .int .i64, .sl false .n, .sl false .i, .sl true .i], .a q15]
abbrev o152:Ts:=[]
abbrev F152:=FT i152 o152
abbrev g152:=mkG 152 i152 o152
noncomputable def m152 (c107:F107) (c119:F119) (c212:F212) (c211:F211) (y:PTup i152):Option (PTup o152×BTup i152):=
  let a0:=y.1;let a1:=a0.2;let a2:=a1.2;let a3:=a2.2;let a4:=a3.2;let a5:=a4.2;let a6:=a5.2;let a7:=a6.2;let a8:=a7.2;let a9:=a8.2;let a10:=a9.2.2;let a11:=a10.2.2;let a12:=a11.2.2;let a13:=a12.2.2;let a14:=a13.2.2.2.2.2;let a15:=a14.2.2.2.2.2;(c211 (y.2.1,((a4.1,(a5.1,(a6.1,(a7.1,(a8.1,(a9.1,(a9.2.1,(a10.1,())))))))),()))).bind fun r0=>
  bif (eqI r0.1.1 1)then ((c107 (a0,(r0.1.2.1,()))).bind fun r1=>let d0:=r1.2;let d1:=d0.1;let d2:=d1.2;let d3:=d2.2;let d4:=d3.2;let d5:=d4.2;let d6:=d5.2;let d7:=d6.2;let d8:=d7.2;let d9:=d8.2;let d10:=d9.2;let d11:=d10.2;let d12:=d11.2;let d13:=d12.2;let d14:=d13.2;let d15:=d14.2;let d16:=d15.2;let d17:=d16.2;let d18:=d17.2;let d19:=d18.2;let d20:=d19.2;let d21:=d20.2;let d22:=d21.2;let d23:=d22.2;let d24:=d23.2.2;let d25:=d24.2.2;(c212 ((a2.1,(d4.1,())),((d5.1,(d6.1,(d7.1,(d8.1,(d9.1,(d10.1,(d11.1,(d12.1,())))))))),(y.2.1,r1.1)))).bind fun r2=>
   some ((),((a0.1,(a1.1,(r2.2.1.1,(r2.2.1.2.1,(r2.2.2.1.1,(r2.2.2.1.2.1,(r2.2.2.1.2.2.1,(r2.2.2.1.2.2.2.1,(r2.2.2.1.2.2.2.2.1,(r2.2.2.1.2.2.2.2.2.1,(r2.2.2.1.2.2.2.2.2.2.1,(r2.2.2.1.2.2.2.2.2.2.2.1,(d13.1,(d14.1,(d15.1,(d16.1,(d17.1,(d18.1,(a13.2.1,(a13.2.2.1,(d21.1,(d22.1,(d23.1,(d23.2.1,(d24.1,(d24.2.1,(d25.1,(d25.2.1,(d25.2.2.1,(d25.2.2.2.1,(d25.2.2.2.2.1,(a15.2.2.2.2.1,(a15.2.2.2.2.2.1,d25.2.2.2.2.2.2.2))))))))))))))))))))))))))))))))),())))
  else bif (eqI r0.1.1 2)then ((c119 (a0,r0.1.2)).bind fun r1=>let d0:=r1.2;let d1:=d0.1;let d2:=d1.2;let d3:=d2.2;let d4:=d3.2;let d5:=d4.2;let d6:=d5.2;let d7:=d6.2;let d8:=d7.2;let d9:=d8.2;let d10:=d9.2;let d11:=d10.2;let d12:=d11.2;let d13:=d12.2;let d14:=d13.2;let d15:=d14.2;let d16:=d15.2;let d17:=d16.2;let d18:=d17.2;let d19:=d18.2;let d20:=d19.2;let d21:=d20.2;let d22:=d21.2;let d23:=d22.2.2;let d24:=d23.2.2;(c212 ((d3.1,(d4.1,())),((d5.1,(d6.1,(d7.1,(d8.1,(d9.1,(d10.1,(d11.1,(d12.1,())))))))),(y.2.1,((0:Int),()))))).bind fun r2=>
   some ((),((a0.1,(a1.1,(r2.2.1.1,(r2.2.1.2.1,(r2.2.2.1.1,(r2.2.2.1.2.1,(r2.2.2.1.2.2.1,(r2.2.2.1.2.2.2.1,(r2.2.2.1.2.2.2.2.1,(r2.2.2.1.2.2.2.2.2.1,(r2.2.2.1.2.2.2.2.2.2.1,(r2.2.2.1.2.2.2.2.2.2.2.1,(d13.1,(d14.1,(d15.1,(d16.1,(d17.1,(d18.1,(d19.1,(a13.2.2.1,(d21.1,(d22.1,(d22.2.1,(d23.1,(d23.2.1,(d24.1,(d24.2.1,(d24.2.2.1,(d24.2.2.2.1,(d24.2.2.2.2.1,(d24.2.2.2.2.2.1,a15.2.2.2.2))))))))))))))))))))))))))))))),())))
  else (c212 ((a2.1,(a3.1,())),((a4.1,(a5.1,(a6.1,(a7.1,(a8.1,(a9.1,(a9.2.1,(a10.1,())))))))),(y.2.1,r0.1.2.2)))).bind fun r1=>
  some ((),((a0.1,(a1.1,(r1.2.1.1,(r1.2.1.2.1,(r1.2.2.1.1,(r1.2.2.1.2.1,(r1.2.2.1.2.2.1,(r1.2.2.1.2.2.2.1,(r1.2.2.1.2.2.2.2.1,(r1.2.2.1.2.2.2.2.2.1,(r1.2.2.1.2.2.2.2.2.2.1,(r1.2.2.1.2.2.2.2.2.2.2.1,a10.2)))))))))))),()))
theorem s152 (c107:F107) (c119:F119) (c212:F212) (c211:F211) (y):TE [g107 c107,g119 c119,g212 c212,g211 c211] Tryz.f152 i152 o152 y=m152 c107 c119 c212 c211 y:=by kernel_rfl
noncomputable def r152:F152:=m152 r107 r119 r212 r211
theorem k152:KO (g152 r152):=fk (s152 r107 r119 r212 r211) ⟨k107,k119,k212,k211,⟨⟩⟩ (by kernel_rfl)
abbrev i153:Ts:=[.p [.sl false .n, .sl false .i, .sl false .i, .int .i64, .int .i64, .int .i64, .int .i64, .int .i64, .bool, .bool, .bool, .bool, .int .i64, .int .i64, .int .i64, .int .i64, .int .i64, .bool, .sl false .i, .sl true .i, .int .i64, .int .i64, .int .i64, .int .i64, .int .i64, .bool, .bool, .bool, .int .i64, .bool, .int .i64, .sl true .n, .sl true .i, .sl false .i]]
abbrev o153:Ts:=[]
abbrev F153:=FT i153 o153
abbrev g153:=mkG 153 i153 o153
noncomputable def m153 (c204:F204) (c203:F203) (y:PTup i153):Option (PTup o153×BTup i153):=
  let a0:=y.1;let a1:=a0.2;let a2:=a1.2;let a3:=a2.2;let a4:=a3.2;let a5:=a4.2;let a6:=a5.2;let a7:=a6.2;let a8:=a7.2;let a9:=a8.2;let a10:=a9.2;let a11:=a10.2;let a12:=a11.2;let a13:=a12.2;let a14:=a13.2;let a15:=a14.2;let a16:=a15.2;let a17:=a16.2;let a18:=a17.2;let a19:=a18.2;let a20:=a19.2;let a21:=a20.2;let a22:=a21.2;let a23:=a22.2;let a24:=a23.2;let a25:=a24.2;let a26:=a25.2;let a27:=a26.2;let a28:=a27.2;let a29:=a28.2;let a30:=a29.2;let a31:=a30.2;let a32:=a31.2;(c203 ((a12.1,(a13.1,(a14.1,(a15.1,(a16.1,(a17.1,(a18.1,(a19.1,())))))))),())).bind fun r0=>let b0:=r0.1;let b1:=r0.2;let b2:=b0.2;let b3:=b1.1;let b4:=b3.2;let b5:=b4.2;let b6:=b5.2;let b7:=b6.2;let b8:=b7.2;let b9:=b8.2.2;bif b0.1 then (bif (leN ((List.length a31.1)+(List.length (b2.1::[]))) (E.most .n))then (bif a29.1 then ((c204 ((a20.1,(a21.1,(a22.1,(a23.1,(a24.1,(a25.1,(a26.1,()))))))),())).bind fun r1=>
     bif r1.1.2.1 then (bif (leN ((List.length a32.1)+(List.length (r1.1.1::[]))) (E.most .i))then (some ((),((a0.1,(a1.1,(a2.1,(a3.1,(a4.1,(a5.1,(a6.1,(a7.1,(a8.1,(a9.1,(a10.1,(a11.1,(b3.1,(b4.1,(b5.1,(b6.1,(b7.1,(b8.1,(a18.1,(b9.1,(r1.2.1.1,(r1.2.1.2.1,(r1.2.1.2.2.1,(r1.2.1.2.2.2.1,(r1.2.1.2.2.2.2.1,(r1.2.1.2.2.2.2.2.1,(r1.2.1.2.2.2.2.2.2.1,(a27.1,(a28.1,(true,(a30.1,((a31.1++(b2.1::[])),((a32.1++(r1.1.1::[])),a32.2))))))))))))))))))))))))))))))))),())))
      else none)
     else some ((),((a0.1,(a1.1,(a2.1,(a3.1,(a4.1,(a5.1,(a6.1,(a7.1,(a8.1,(a9.1,(a10.1,(a11.1,(b3.1,(b4.1,(b5.1,(b6.1,(b7.1,(b8.1,(a18.1,(b9.1,(r1.2.1.1,(r1.2.1.2.1,(r1.2.1.2.2.1,(r1.2.1.2.2.2.1,(r1.2.1.2.2.2.2.1,(r1.2.1.2.2.2.2.2.1,(r1.2.1.2.2.2.2.2.2.1,(a27.1,(a28.1,(true,(a30.1,((a31.1++(b2.1::[])),a32)))))))))))))))))))))))))))))))),())))
    else (c204 ((a20.1,(a21.1,(a22.1,(a23.1,(a24.1,(a25.1,(a26.1,()))))))),())).bind fun r1=>
    bif r1.1.2.1 then (bif (leN ((List.length a32.1)+(List.length (r1.1.1::[]))) (E.most .i))then (some ((),((a0.1,(a1.1,(a2.1,(a3.1,(a4.1,(a5.1,(a6.1,(a7.1,(a8.1,(a9.1,(a10.1,(a11.1,(b3.1,(b4.1,(b5.1,(b6.1,(b7.1,(b8.1,(a18.1,(b9.1,(r1.2.1.1,(r1.2.1.2.1,(r1.2.1.2.2.1,(r1.2.1.2.2.2.1,(r1.2.1.2.2.2.2.1,(r1.2.1.2.2.2.2.2.1,(r1.2.1.2.2.2.2.2.2.1,(a27.1,(a28.1,(b2.2.1,(a30.1,((a31.1++(b2.1::[])),((a32.1++(r1.1.1::[])),a32.2))))))))))))))))))))))))))))))))),())))
     else none)
    else some ((),((a0.1,(a1.1,(a2.1,(a3.1,(a4.1,(a5.1,(a6.1,(a7.1,(a8.1,(a9.1,(a10.1,(a11.1,(b3.1,(b4.1,(b5.1,(b6.1,(b7.1,(b8.1,(a18.1,(b9.1,(r1.2.1.1,(r1.2.1.2.1,(r1.2.1.2.2.1,(r1.2.1.2.2.2.1,(r1.2.1.2.2.2.2.1,(r1.2.1.2.2.2.2.2.1,(r1.2.1.2.2.2.2.2.2.1,(a27.1,(a28.1,(b2.2.1,(a30.1,((a31.1++(b2.1::[])),a32)))))))))))))))))))))))))))))))),())))
   else none)
  else bif a29.1 then ((c204 ((a20.1,(a21.1,(a22.1,(a23.1,(a24.1,(a25.1,(a26.1,()))))))),())).bind fun r1=>
   bif r1.1.2.1 then (bif (leN ((List.length a32.1)+(List.length (r1.1.1::[]))) (E.most .i))then (some ((),((a0.1,(a1.1,(a2.1,(a3.1,(a4.1,(a5.1,(a6.1,(a7.1,(a8.1,(a9.1,(a10.1,(a11.1,(b3.1,(b4.1,(b5.1,(b6.1,(b7.1,(b8.1,(a18.1,(b9.1,(r1.2.1.1,(r1.2.1.2.1,(r1.2.1.2.2.1,(r1.2.1.2.2.2.1,(r1.2.1.2.2.2.2.1,(r1.2.1.2.2.2.2.2.1,(r1.2.1.2.2.2.2.2.2.1,(a27.1,(a28.1,(true,(a30.1,(a31.1,((a32.1++(r1.1.1::[])),a32.2))))))))))))))))))))))))))))))))),())))
    else none)
   else some ((),((a0.1,(a1.1,(a2.1,(a3.1,(a4.1,(a5.1,(a6.1,(a7.1,(a8.1,(a9.1,(a10.1,(a11.1,(b3.1,(b4.1,(b5.1,(b6.1,(b7.1,(b8.1,(a18.1,(b9.1,(r1.2.1.1,(r1.2.1.2.1,(r1.2.1.2.2.1,(r1.2.1.2.2.2.1,(r1.2.1.2.2.2.2.1,(r1.2.1.2.2.2.2.2.1,(r1.2.1.2.2.2.2.2.2.1,(a27.1,(a28.1,(true,a30)))))))))))))))))))))))))))))),())))
  else (c204 ((a20.1,(a21.1,(a22.1,(a23.1,(a24.1,(a25.1,(a26.1,()))))))),())).bind fun r1=>
  bif r1.1.2.1 then (bif (leN ((List.length a32.1)+(List.length (r1.1.1::[]))) (E.most .i))then (some ((),((a0.1,(a1.1,(a2.1,(a3.1,(a4.1,(a5.1,(a6.1,(a7.1,(a8.1,(a9.1,(a10.1,(a11.1,(b3.1,(b4.1,(b5.1,(b6.1,(b7.1,(b8.1,(a18.1,(b9.1,(r1.2.1.1,(r1.2.1.2.1,(r1.2.1.2.2.1,(r1.2.1.2.2.2.1,(r1.2.1.2.2.2.2.1,(r1.2.1.2.2.2.2.2.1,(r1.2.1.2.2.2.2.2.2.1,(a27.1,(a28.1,(b2.2.1,(a30.1,(a31.1,((a32.1++(r1.1.1::[])),a32.2))))))))))))))))))))))))))))))))),())))
   else none)
  else some ((),((a0.1,(a1.1,(a2.1,(a3.1,(a4.1,(a5.1,(a6.1,(a7.1,(a8.1,(a9.1,(a10.1,(a11.1,(b3.1,(b4.1,(b5.1,(b6.1,(b7.1,(b8.1,(a18.1,(b9.1,(r1.2.1.1,(r1.2.1.2.1,(r1.2.1.2.2.1,(r1.2.1.2.2.2.1,(r1.2.1.2.2.2.2.1,(r1.2.1.2.2.2.2.2.1,(r1.2.1.2.2.2.2.2.2.1,(a27.1,(a28.1,(b2.2.1,a30)))))))))))))))))))))))))))))),()))
theorem s153 (c204:F204) (c203:F203) (y):TE [g204 c204,g203 c203] Tryz.f153 i153 o153 y=m153 c204 c203 y:=by kernel_rfl
noncomputable def r153:F153:=m153 r204 r203
theorem k153:KO (g153 r153):=fk (s153 r204 r203) ⟨k204,k203,⟨⟩⟩ (by kernel_rfl)
abbrev i84:Ts:=[.p [.sl false .n, .sl false .i, .sl true .i, .int .i64, .int .i64, .int .i64, .int .i64, .int .i64, .bool, .bool, .bool, .bool, .int .i64, .int .i64, .int .i64, .int .i64, .int .i64, .bool, .sl true .i, .sl true .i, .int .i64, .int .i64, .int .i64, .int .i64, .int .i64, .bool, .bool, .bool, .int .i64, .bool, .int .i64, .sl true .n, .sl true .i, .sl true .i]]
abbrev o84:Ts:=[.v (.bool)]
abbrev R84:=Option (PTup o84×BTup i84)
abbrev F84:=PTup i84→R84
abbrev g84:=mkG 84 i84 o84
abbrev lc84_0:Ts:=[.v (.int .i64)]
abbrev lb84_0:Ts:=[.p [.sl false .n, .sl false .i, .sl false .i, .int .i64, .int .i64, .int .i64, .int .i64, .int .i64, .bool, .bool, .bool, .bool, .int .i64, .int .i64, .int .i64, .int .i64, .int .i64, .bool, .sl false .i, .sl true .i, .int .i64, .int .i64, .int .i64, .int .i64, .int .i64, .bool, .bool, .bool, .int .i64, .bool, .int .i64, .sl true .n, .sl true .i, .sl false .i]]
abbrev lv84_0:Ts:=[.v (.int .i64)]
abbrev lr84_0:Ts:=[]
abbrev R84_0:=Option (Sum (PTup lv84_0) (PTup lr84_0)×BTup lb84_0)
abbrev B84_0:=PTup lb84_0→PTup lv84_0→R84_0
abbrev A84_0:=PTup lc84_0→B84_0
noncomputable def w84_0 (c151:F151) (c152:F152) (c153:F153) (c150:F150) (c149:F149) (again:B84_0) (x:PTup lc84_0) (y:PTup lb84_0) (z:PTup lv84_0):R84_0:=
  bif (ltI z.1 x.1)then ((c153 (y.1,())).bind fun r0=>let b0:=r0.2;let b1:=b0.1;let b2:=b1.2;let b3:=b2.2;let b4:=b3.2;let b5:=b4.2;let b6:=b5.2;let b7:=b6.2;let b8:=b7.2;let b9:=b8.2;let b10:=b9.2;let b11:=b10.2;let b12:=b11.2;let b13:=b12.2;let b14:=b13.2;let b15:=b14.2;let b16:=b15.2;let b17:=b16.2;let b18:=b17.2;let b19:=b18.2;let b20:=b19.2;let b21:=b20.2;let b22:=b21.2;let b23:=b22.2;let b24:=b23.2;let b25:=b24.2.2;let b26:=b25.2.2;again ((y.1.1,(y.1.2.1,(y.1.2.2.1,(b4.1,(b5.1,(b6.1,(b7.1,(b8.1,(b9.1,(b10.1,(b11.1,(b12.1,(b13.1,(b14.1,(b15.1,(b16.1,(b17.1,(b18.1,(y.1.2.2.2.2.2.2.2.2.2.2.2.2.2.2.2.2.2.2.1,(b20.1,(b21.1,(b22.1,(b23.1,(b24.1,(b24.2.1,(b25.1,(b25.2.1,(b26.1,(b26.2.1,(b26.2.2.1,(b26.2.2.2.1,(b26.2.2.2.2.1,(b26.2.2.2.2.2.1,y.1.2.2.2.2.2.2.2.2.2.2.2.2.2.2.2.2.2.2.2.2.2.2.2.2.2.2.2.2.2.2.2.2.2))))))))))))))))))))))))))))))))),()) ((wI (z.1+1)),()))
  else some ((Sum.inl z),(y.1,()))
noncomputable def e84_0 (l:A84_0):LoopE:=⟨[68],lc84_0,[0],lb84_0,[69],lv84_0,[],lr84_0,1,[],l⟩
noncomputable def m84 (c151:F151) (c152:F152) (c153:F153) (c150:F150) (c149:F149) (l0:A84_0) (y:PTup i84):R84:=
  let a0:=y.1;let a1:=a0.1;let a2:=a0.2;let a3:=a2.1;let a4:=a2.2;let a5:=a4.2;let a6:=a5.2;let a7:=a6.2;let a8:=a7.2;let a9:=a8.2;let a10:=a9.2;let a11:=a10.2;let a12:=a11.2;let a13:=a12.2;let a14:=a13.2;let a15:=a14.2;let a16:=a15.2;let a17:=a16.2;let a18:=a17.2;let a19:=a18.2;let a20:=a19.2;let a21:=a20.1;let a22:=a20.2;let a23:=a22.1;let a24:=a22.2;let a25:=a24.2;let a26:=a25.2;let a27:=a26.2;let a28:=a27.2;let a29:=a28.2;let a30:=a29.2;let a31:=a30.2;let a32:=a31.2;let a33:=a32.2;let a34:=a33.2;let a35:=a34.2;let a36:=a35.2;let a37:=a36.2;let X0:R84:=(c151 ((a1,(a3,(a4.1,(a5.1,(a6.1,(a7.1,(a8.1,(a9.1,(a10.1,(a11.1,(a12.1,(a13.1,(a14.1,(a15.1,(a16.1,(a17.1,(a18.1,(a19.1,(a21,(a23,(a24.1,(a25.1,(a26.1,(a27.1,(a28.1,(a29.1,(a30.1,(a31.1,(a32.1,(false,a34)))))))))))))))))))))))))))))),((65530:Int),()))).bind fun r2=>let f0:=r2.2;let f1:=f0.1;let f2:=f1.2;let f3:=f2.2;let f4:=f3.2;let f5:=f4.2;let f6:=f5.2;let f7:=f6.2;let f8:=f7.2;let f9:=f8.2;let f10:=f9.2;let f11:=f10.2;let f12:=f11.2;let f13:=f12.2;let f14:=f13.2;let f15:=f14.2;let f16:=f15.2;let f17:=f16.2;let f18:=f17.2;let f19:=f18.2;let f20:=f19.2;let f21:=f20.2;let f22:=f21.2;let f23:=f22.2.2;let f24:=f23.2.2;(l0 ((7:Int),()) ((a1,(a3,(f3.1,(f4.1,(f5.1,(f6.1,(f7.1,(f8.1,(f9.1,(f10.1,(f11.1,(f12.1,(f13.1,(f14.1,(f15.1,(f16.1,(f17.1,(f18.1,(a21,(a23,(f21.1,(f22.1,(f22.2.1,(f23.1,(f23.2.1,(f24.1,(f24.2.1,(f24.2.2.1,(f24.2.2.2.1,(f24.2.2.2.2.1,(f24.2.2.2.2.2.1,a35))))))))))))))))))))))))))))))),()) ((0:Int),())).bind fun r3=>let g0:=r3.2;let g1:=g0.1;let g2:=g1.2;let g3:=g2.2;let g4:=g3.2;let g5:=g4.2;let g6:=g5.2;let g7:=g6.2;let g8:=g7.2;let g9:=g8.2;let g10:=g9.2;let g11:=g10.2;let g12:=g11.2;let g13:=g12.2;let g14:=g13.2;let g15:=g14.2;let g16:=g15.2;let g17:=g16.2;let g18:=g17.2;let g19:=g18.2;let g20:=g19.2;let g21:=g20.2;let g22:=g21.2;let g23:=g22.2;let g24:=g23.2;let g25:=g24.2;let g26:=g25.2;let g27:=g26.2;let g28:=g27.2;let g29:=g28.2;let g30:=g29.2.2;sumElim r3.1 (fun r4=>some ((true,()),((a1,(a3,(f3.1,(g4.1,(g5.1,(g6.1,(g7.1,(g8.1,(g9.1,(g10.1,(g11.1,(g12.1,(g13.1,(g14.1,(g15.1,(g16.1,(g17.1,(g18.1,(a21,(g20.1,(g21.1,(g22.1,(g23.1,(g24.1,(g25.1,(g26.1,(g27.1,(g28.1,(g29.1,(g29.2.1,((wI (g30.1+1)),(g30.2.1,(g30.2.2.1,a37))))))))))))))))))))))))))))))))),()))) (fun r4=>some ((false,()),((a1,(a3,(f3.1,(g4.1,(g5.1,(g6.1,(g7.1,(g8.1,(g9.1,(g10.1,(g11.1,(g12.1,(g13.1,(g14.1,(g15.1,(g16.1,(g17.1,(g18.1,(a21,(g20.1,(g21.1,(g22.1,(g23.1,(g24.1,(g25.1,(g26.1,(g27.1,(g28.1,(g29.1,(g29.2.1,(g30.1,(g30.2.1,(g30.2.2.1,a37))))))))))))))))))))))))))))))))),())));let X1:R84:=(c151 (a0,((65534:Int),()))).bind fun r2=>let f0:=r2.2;let f1:=f0.1;let f2:=f1.2;let f3:=f2.2;let f4:=f3.2;let f5:=f4.2;let f6:=f5.2;let f7:=f6.2;let f8:=f7.2;let f9:=f8.2;let f10:=f9.2;let f11:=f10.2;let f12:=f11.2;let f13:=f12.2;let f14:=f13.2;let f15:=f14.2;let f16:=f15.2;let f17:=f16.2;let f18:=f17.2;let f19:=f18.2;let f20:=f19.2;let f21:=f20.2;let f22:=f21.2;let f23:=f22.2.2;let f24:=f23.2.2;(l0 ((7:Int),()) ((a1,(a3,(f3.1,(f4.1,(f5.1,(f6.1,(f7.1,(f8.1,(f9.1,(f10.1,(f11.1,(f12.1,(f13.1,(f14.1,(f15.1,(f16.1,(f17.1,(f18.1,(a21,(a23,(f21.1,(f22.1,(f22.2.1,(f23.1,(f23.2.1,(f24.1,(f24.2.1,(f24.2.2.1,(f24.2.2.2.1,(f24.2.2.2.2.1,(f24.2.2.2.2.2.1,a35))))))))))))))))))))))))))))))),()) ((0:Int),())).bind fun r3=>let g0:=r3.2;let g1:=g0.1;let g2:=g1.2;let g3:=g2.2;let g4:=g3.2;let g5:=g4.2;let g6:=g5.2;let g7:=g6.2;let g8:=g7.2;let g9:=g8.2;let g10:=g9.2;let g11:=g10.2;let g12:=g11.2;let g13:=g12.2;let g14:=g13.2;let g15:=g14.2;let g16:=g15.2;let g17:=g16.2;let g18:=g17.2;let g19:=g18.2;let g20:=g19.2;let g21:=g20.2;let g22:=g21.2;let g23:=g22.2;let g24:=g23.2;let g25:=g24.2;let g26:=g25.2;let g27:=g26.2;let g28:=g27.2;let g29:=g28.2;let g30:=g29.2.2;sumElim r3.1 (fun r4=>some ((true,()),((a1,(a3,(f3.1,(g4.1,(g5.1,(g6.1,(g7.1,(g8.1,(g9.1,(g10.1,(g11.1,(g12.1,(g13.1,(g14.1,(g15.1,(g16.1,(g17.1,(g18.1,(a21,(g20.1,(g21.1,(g22.1,(g23.1,(g24.1,(g25.1,(g26.1,(g27.1,(g28.1,(g29.1,(g29.2.1,((wI (g30.1+1)),(g30.2.1,(g30.2.2.1,a37))))))))))))))))))))))))))))))))),()))) (fun r4=>some ((false,()),((a1,(a3,(f3.1,(g4.1,(g5.1,(g6.1,(g7.1,(g8.1,(g9.1,(g10.1,(g11.1,(g12.1,(g13.1,(g14.1,(g15.1,(g16.1,(g17.1,(g18.1,(a21,(g20.1,(g21.1,(g22.1,(g23.1,(g24.1,(g25.1,(g26.1,(g27.1,(g28.1,(g29.1,(g29.2.1,(g30.1,(g30.2.1,(g30.2.2.1,a37))))))))))))))))))))))))))))))))),())));bif a33.1 then ((c149 ((a1,()),((a4.1,(a5.1,())),(a9.1,())))).bind fun r0=>(c150 (r0.1.1.1,())).bind fun r1=>bif (ltI 20000 (wI (a14.1+7)))then (some ((false,()),(a0,())))else bif a33.1 then X0 else X1)else bif a30.1 then ((c149 ((a1,()),((a4.1,(a5.1,())),(a9.1,())))).bind fun r0=>(c150 (r0.1.1.1,())).bind fun r1=>bif (!a13.1)then (bif (ltI 20000 (wI (a14.1+7)))then (some ((false,()),(a0,())))else bif a33.1 then X0 else bif (!a13.1)then X1 else (c152 (a0,(r0.1.1,()))).bind fun r2=>let f0:=r2.2;let f1:=f0.1;let f2:=f1.2;let f3:=f2.2;let f4:=f3.2;let f5:=f4.2;let f6:=f5.2;let f7:=f6.2;let f8:=f7.2;let f9:=f8.2;let f10:=f9.2;let f11:=f10.2;let f12:=f11.2;let f13:=f12.2;let f14:=f13.2;let f15:=f14.2;let f16:=f15.2;let f17:=f16.2;let f18:=f17.2;let f19:=f18.2;let f20:=f19.2;let f21:=f20.2;let f22:=f21.2;let f23:=f22.2;let f24:=f23.2;let f25:=f24.2;let f26:=f25.2.2;let f27:=f26.2.2;let f28:=f27.2.2.2.2.2;(l0 ((7:Int),()) ((a1,(a3,(f3.1,(f4.1,(f5.1,(f6.1,(f7.1,(f8.1,(f9.1,(f10.1,(f11.1,(f12.1,(f13.1,(f14.1,(f15.1,(f16.1,(f17.1,(f18.1,(f19.1,(a23,(f21.1,(f22.1,(f23.1,(f24.1,(f25.1,(f25.2.1,(f26.1,(f26.2.1,(f27.1,(f27.2.1,(f27.2.2.1,(a35.1,(a36.1,f28))))))))))))))))))))))))))))))))),()) ((0:Int),())).bind fun r3=>let g0:=r3.2;let g1:=g0.1;let g2:=g1.2;let g3:=g2.2;let g4:=g3.2;let g5:=g4.2;let g6:=g5.2;let g7:=g6.2;let g8:=g7.2;let g9:=g8.2;let g10:=g9.2;let g11:=g10.2;let g12:=g11.2;let g13:=g12.2;let g14:=g13.2;let g15:=g14.2;let g16:=g15.2;let g17:=g16.2;let g18:=g17.2;let g19:=g18.2;let g20:=g19.2;let g21:=g20.2;let g22:=g21.2;let g23:=g22.2;let g24:=g23.2;let g25:=g24.2;let g26:=g25.2;let g27:=g26.2;let g28:=g27.2;let g29:=g28.2;let g30:=g29.2.2;sumElim r3.1 (fun r4=>some ((true,()),((a1,(a3,(f3.1,(g4.1,(g5.1,(g6.1,(g7.1,(g8.1,(g9.1,(g10.1,(g11.1,(g12.1,(g13.1,(g14.1,(g15.1,(g16.1,(g17.1,(g18.1,(f19.1,(g20.1,(g21.1,(g22.1,(g23.1,(g24.1,(g25.1,(g26.1,(g27.1,(g28.1,(g29.1,(g29.2.1,((wI (g30.1+1)),(g30.2.1,(g30.2.2.1,f28))))))))))))))))))))))))))))))))),()))) (fun r4=>some ((false,()),((a1,(a3,(f3.1,(g4.1,(g5.1,(g6.1,(g7.1,(g8.1,(g9.1,(g10.1,(g11.1,(g12.1,(g13.1,(g14.1,(g15.1,(g16.1,(g17.1,(g18.1,(f19.1,(g20.1,(g21.1,(g22.1,(g23.1,(g24.1,(g25.1,(g26.1,(g27.1,(g28.1,(g29.1,(g29.2.1,(g30.1,(g30.2.1,(g30.2.2.1,f28))))))))))))))))))))))))))))))))),()))))else bif (ltI 20000 (wI (a14.1+r1.1.1)))then (some ((false,()),(a0,())))else bif a33.1 then ((c151 ((a1,(a3,(a4.1,(a5.1,(a6.1,(a7.1,(a8.1,(a9.1,(a10.1,(a11.1,(a12.1,(a13.1,(a14.1,(a15.1,(a16.1,(a17.1,(a18.1,(a19.1,(a21,(a23,(a24.1,(a25.1,(a26.1,(a27.1,(a28.1,(a29.1,(a30.1,(a31.1,(a32.1,(false,a34)))))))))))))))))))))))))))))),((65530:Int),()))).bind fun r2=>let f0:=r2.2;let f1:=f0.1;let f2:=f1.2;let f3:=f2.2;let f4:=f3.2;let f5:=f4.2;let f6:=f5.2;let f7:=f6.2;let f8:=f7.2;let f9:=f8.2;let f10:=f9.2;let f11:=f10.2;let f12:=f11.2;let f13:=f12.2;let f14:=f13.2;let f15:=f14.2;let f16:=f15.2;let f17:=f16.2;let f18:=f17.2;let f19:=f18.2;let f20:=f19.2;let f21:=f20.2;let f22:=f21.2;let f23:=f22.2.2;let f24:=f23.2.2;(l0 r1.1 ((a1,(a3,(f3.1,(f4.1,(f5.1,(f6.1,(f7.1,(f8.1,(f9.1,(f10.1,(f11.1,(f12.1,(f13.1,(f14.1,(f15.1,(f16.1,(f17.1,(f18.1,(a21,(a23,(f21.1,(f22.1,(f22.2.1,(f23.1,(f23.2.1,(f24.1,(f24.2.1,(f24.2.2.1,(f24.2.2.2.1,(f24.2.2.2.2.1,(f24.2.2.2.2.2.1,a35))))))))))))))))))))))))))))))),()) ((0:Int),())).bind fun r3=>let g0:=r3.2;let g1:=g0.1;let g2:=g1.2;let g3:=g2.2;let g4:=g3.2;let g5:=g4.2;let g6:=g5.2;let g7:=g6.2;let g8:=g7.2;let g9:=g8.2;let g10:=g9.2;let g11:=g10.2;let g12:=g11.2;let g13:=g12.2;let g14:=g13.2;let g15:=g14.2;let g16:=g15.2;let g17:=g16.2;let g18:=g17.2;let g19:=g18.2;let g20:=g19.2;let g21:=g20.2;let g22:=g21.2;let g23:=g22.2;let g24:=g23.2;let g25:=g24.2;let g26:=g25.2;let g27:=g26.2;let g28:=g27.2;let g29:=g28.2;let g30:=g29.2.2;sumElim r3.1 (fun r4=>some ((true,()),((a1,(a3,(f3.1,(g4.1,(g5.1,(g6.1,(g7.1,(g8.1,(g9.1,(g10.1,(g11.1,(g12.1,(g13.1,(g14.1,(g15.1,(g16.1,(g17.1,(g18.1,(a21,(g20.1,(g21.1,(g22.1,(g23.1,(g24.1,(g25.1,(g26.1,(g27.1,(g28.1,(g29.1,(g29.2.1,((wI (g30.1+1)),(g30.2.1,(g30.2.2.1,a37))))))))))))))))))))))))))))))))),()))) (fun r4=>some ((false,()),((a1,(a3,(f3.1,(g4.1,(g5.1,(g6.1,(g7.1,(g8.1,(g9.1,(g10.1,(g11.1,(g12.1,(g13.1,(g14.1,(g15.1,(g16.1,(g17.1,(g18.1,(a21,(g20.1,(g21.1,(g22.1,(g23.1,(g24.1,(g25.1,(g26.1,(g27.1,(g28.1,(g29.1,(g29.2.1,(g30.1,(g30.2.1,(g30.2.2.1,a37))))))))))))))))))))))))))))))))),()))))else bif (!a13.1)then ((c151 (a0,((65534:Int),()))).bind fun r2=>let f0:=r2.2;let f1:=f0.1;let f2:=f1.2;let f3:=f2.2;let f4:=f3.2;let f5:=f4.2;let f6:=f5.2;let f7:=f6.2;let f8:=f7.2;let f9:=f8.2;let f10:=f9.2;let f11:=f10.2;let f12:=f11.2;let f13:=f12.2;let f14:=f13.2;let f15:=f14.2;let f16:=f15.2;let f17:=f16.2;let f18:=f17.2;let f19:=f18.2;let f20:=f19.2;let f21:=f20.2;let f22:=f21.2;let f23:=f22.2.2;let f24:=f23.2.2;(l0 r1.1 ((a1,(a3,(f3.1,(f4.1,(f5.1,(f6.1,(f7.1,(f8.1,(f9.1,(f10.1,(f11.1,(f12.1,(f13.1,(f14.1,(f15.1,(f16.1,(f17.1,(f18.1,(a21,(a23,(f21.1,(f22.1,(f22.2.1,(f23.1,(f23.2.1,(f24.1,(f24.2.1,(f24.2.2.1,(f24.2.2.2.1,(f24.2.2.2.2.1,(f24.2.2.2.2.2.1,a35))))))))))))))))))))))))))))))),()) ((0:Int),())).bind fun r3=>let g0:=r3.2;let g1:=g0.1;let g2:=g1.2;let g3:=g2.2;let g4:=g3.2;let g5:=g4.2;let g6:=g5.2;let g7:=g6.2;let g8:=g7.2;let g9:=g8.2;let g10:=g9.2;let g11:=g10.2;let g12:=g11.2;let g13:=g12.2;let g14:=g13.2;let g15:=g14.2;let g16:=g15.2;let g17:=g16.2;let g18:=g17.2;let g19:=g18.2;let g20:=g19.2;let g21:=g20.2;let g22:=g21.2;let g23:=g22.2;let g24:=g23.2;let g25:=g24.2;let g26:=g25.2;let g27:=g26.2;let g28:=g27.2;let g29:=g28.2;let g30:=g29.2.2;sumElim r3.1 (fun r4=>some ((true,()),((a1,(a3,(f3.1,(g4.1,(g5.1,(g6.1,(g7.1,(g8.1,(g9.1,(g10.1,(g11.1,(g12.1,(g13.1,(g14.1,(g15.1,(g16.1,(g17.1,(g18.1,(a21,(g20.1,(g21.1,(g22.1,(g23.1,(g24.1,(g25.1,(g26.1,(g27.1,(g28.1,(g29.1,(g29.2.1,((wI (g30.1+1)),(g30.2.1,(g30.2.2.1,a37))))))))))))))))))))))))))))))))),()))) (fun r4=>some ((false,()),((a1,(a3,(f3.1,(g4.1,(g5.1,(g6.1,(g7.1,(g8.1,(g9.1,(g10.1,(g11.1,(g12.1,(g13.1,(g14.1,(g15.1,(g16.1,(g17.1,(g18.1,(a21,(g20.1,(g21.1,(g22.1,(g23.1,(g24.1,(g25.1,(g26.1,(g27.1,(g28.1,(g29.1,(g29.2.1,(g30.1,(g30.2.1,(g30.2.2.1,a37))))))))))))))))))))))))))))))))),()))))else (c152 (a0,(r0.1.1,()))).bind fun r2=>let f0:=r2.2;let f1:=f0.1;let f2:=f1.2;let f3:=f2.2;let f4:=f3.2;let f5:=f4.2;let f6:=f5.2;let f7:=f6.2;let f8:=f7.2;let f9:=f8.2;let f10:=f9.2;let f11:=f10.2;let f12:=f11.2;let f13:=f12.2;let f14:=f13.2;let f15:=f14.2;let f16:=f15.2;let f17:=f16.2;let f18:=f17.2;let f19:=f18.2;let f20:=f19.2;let f21:=f20.2;let f22:=f21.2;let f23:=f22.2;let f24:=f23.2;let f25:=f24.2;let f26:=f25.2.2;let f27:=f26.2.2;let f28:=f27.2.2.2.2.2;(l0 r1.1 ((a1,(a3,(f3.1,(f4.1,(f5.1,(f6.1,(f7.1,(f8.1,(f9.1,(f10.1,(f11.1,(f12.1,(f13.1,(f14.1,(f15.1,(f16.1,(f17.1,(f18.1,(f19.1,(a23,(f21.1,(f22.1,(f23.1,(f24.1,(f25.1,(f25.2.1,(f26.1,(f26.2.1,(f27.1,(f27.2.1,(f27.2.2.1,(a35.1,(a36.1,f28))))))))))))))))))))))))))))))))),()) ((0:Int),())).bind fun r3=>let g0:=r3.2;let g1:=g0.1;let g2:=g1.2;let g3:=g2.2;let g4:=g3.2;let g5:=g4.2;let g6:=g5.2;let g7:=g6.2;let g8:=g7.2;let g9:=g8.2;let g10:=g9.2;let g11:=g10.2;let g12:=g11.2;let g13:=g12.2;let g14:=g13.2;let g15:=g14.2;let g16:=g15.2;let g17:=g16.2;let g18:=g17.2;let g19:=g18.2;let g20:=g19.2;let g21:=g20.2;let g22:=g21.2;let g23:=g22.2;let g24:=g23.2;let g25:=g24.2;let g26:=g25.2;let g27:=g26.2;let g28:=g27.2;let g29:=g28.2;let g30:=g29.2.2;sumElim r3.1 (fun r4=>some ((true,()),((a1,(a3,(f3.1,(g4.1,(g5.1,(g6.1,(g7.1,(g8.1,(g9.1,(g10.1,(g11.1,(g12.1,(g13.1,(g14.1,(g15.1,(g16.1,(g17.1,(g18.1,(f19.1,(g20.1,(g21.1,(g22.1,(g23.1,(g24.1,(g25.1,(g26.1,(g27.1,(g28.1,(g29.1,(g29.2.1,((wI (g30.1+1)),(g30.2.1,(g30.2.2.1,f28))))))))))))))))))))))))))))))))),()))) (fun r4=>some ((false,()),((a1,(a3,(f3.1,(g4.1,(g5.1,(g6.1,(g7.1,(g8.1,(g9.1,(g10.1,(g11.1,(g12.1,(g13.1,(g14.1,(g15.1,(g16.1,(g17.1,(g18.1,(f19.1,(g20.1,(g21.1,(g22.1,(g23.1,(g24.1,(g25.1,(g26.1,(g27.1,(g28.1,(g29.1,(g29.2.1,(g30.1,(g30.2.1,(g30.2.2.1,f28))))))))))))))))))))))))))))))))),()))))else (c149 ((a1,()),((a4.1,(a5.1,())),(a9.1,())))).bind fun r0=>(c150 (r0.1.1.1,())).bind fun r1=>bif (ltI 20000 (wI (a14.1+r1.1.1)))then (some ((false,()),(a0,())))else bif a33.1 then ((c151 ((a1,(a3,(a4.1,(a5.1,(a6.1,(a7.1,(a8.1,(a9.1,(a10.1,(a11.1,(a12.1,(a13.1,(a14.1,(a15.1,(a16.1,(a17.1,(a18.1,(a19.1,(a21,(a23,(a24.1,(a25.1,(a26.1,(a27.1,(a28.1,(a29.1,(a30.1,(a31.1,(a32.1,(false,a34)))))))))))))))))))))))))))))),((65530:Int),()))).bind fun r2=>let f0:=r2.2;let f1:=f0.1;let f2:=f1.2;let f3:=f2.2;let f4:=f3.2;let f5:=f4.2;let f6:=f5.2;let f7:=f6.2;let f8:=f7.2;let f9:=f8.2;let f10:=f9.2;let f11:=f10.2;let f12:=f11.2;let f13:=f12.2;let f14:=f13.2;let f15:=f14.2;let f16:=f15.2;let f17:=f16.2;let f18:=f17.2;let f19:=f18.2;let f20:=f19.2;let f21:=f20.2;let f22:=f21.2;let f23:=f22.2.2;let f24:=f23.2.2;(l0 r1.1 ((a1,(a3,(f3.1,(f4.1,(f5.1,(f6.1,(f7.1,(f8.1,(f9.1,(f10.1,(f11.1,(f12.1,(f13.1,(f14.1,(f15.1,(f16.1,(f17.1,(f18.1,(a21,(a23,(f21.1,(f22.1,(f22.2.1,(f23.1,(f23.2.1,(f24.1,(f24.2.1,(f24.2.2.1,(f24.2.2.2.1,(f24.2.2.2.2.1,(f24.2.2.2.2.2.1,a35))))))))))))))))))))))))))))))),()) ((0:Int),())).bind fun r3=>let g0:=r3.2;let g1:=g0.1;let g2:=g1.2;let g3:=g2.2;let g4:=g3.2;let g5:=g4.2;let g6:=g5.2;let g7:=g6.2;let g8:=g7.2;let g9:=g8.2;let g10:=g9.2;let g11:=g10.2;let g12:=g11.2;let g13:=g12.2;let g14:=g13.2;let g15:=g14.2;let g16:=g15.2;let g17:=g16.2;let g18:=g17.2;let g19:=g18.2;let g20:=g19.2;let g21:=g20.2;let g22:=g21.2;let g23:=g22.2;let g24:=g23.2;let g25:=g24.2;let g26:=g25.2;let g27:=g26.2;let g28:=g27.2;let g29:=g28.2;let g30:=g29.2.2;sumElim r3.1 (fun r4=>some ((true,()),((a1,(a3,(f3.1,(g4.1,(g5.1,(g6.1,(g7.1,(g8.1,(g9.1,(g10.1,(g11.1,(g12.1,(g13.1,(g14.1,(g15.1,(g16.1,(g17.1,(g18.1,(a21,(g20.1,(g21.1,(g22.1,(g23.1,(g24.1,(g25.1,(g26.1,(g27.1,(g28.1,(g29.1,(g29.2.1,((wI (g30.1+1)),(g30.2.1,(g30.2.2.1,a37))))))))))))))))))))))))))))))))),()))) (fun r4=>some ((false,()),((a1,(a3,(f3.1,(g4.1,(g5.1,(g6.1,(g7.1,(g8.1,(g9.1,(g10.1,(g11.1,(g12.1,(g13.1,(g14.1,(g15.1,(g16.1,(g17.1,(g18.1,(a21,(g20.1,(g21.1,(g22.1,(g23.1,(g24.1,(g25.1,(g26.1,(g27.1,(g28.1,(g29.1,(g29.2.1,(g30.1,(g30.2.1,(g30.2.2.1,a37))))))))))))))))))))))))))))))))),()))))else (c152 (a0,(r0.1.1,()))).bind fun r2=>let f0:=r2.2;let f1:=f0.1;let f2:=f1.2;let f3:=f2.2;let f4:=f3.2;let f5:=f4.2;let f6:=f5.2;let f7:=f6.2;let f8:=f7.2;let f9:=f8.2;let f10:=f9.2;let f11:=f10.2;let f12:=f11.2;let f13:=f12.2;let f14:=f13.2;let f15:=f14.2;let f16:=f15.2;let f17:=f16.2;let f18:=f17.2;let f19:=f18.2;let f20:=f19.2;let f21:=f20.2;let f22:=f21.2;let f23:=f22.2;let f24:=f23.2;let f25:=f24.2;let f26:=f25.2.2;let f27:=f26.2.2;let f28:=f27.2.2.2.2.2;(l0 r1.1 ((a1,(a3,(f3.1,(f4.1,(f5.1,(f6.1,(f7.1,(f8.1,(f9.1,(f10.1,(f11.1,(f12.1,(f13.1,(f14.1,(f15.1,(f16.1,(f17.1,(f18.1,(f19.1,(a23,(f21.1,(f22.1,(f23.1,(f24.1,(f25.1,(f25.2.1,(f26.1,(f26.2.1,(f27.1,(f27.2.1,(f27.2.2.1,(a35.1,(a36.1,f28))))))))))))))))))))))))))))))))),()) ((0:Int),())).bind fun r3=>let g0:=r3.2;let g1:=g0.1;let g2:=g1.2;let g3:=g2.2;let g4:=g3.2;let g5:=g4.2;let g6:=g5.2;let g7:=g6.2;let g8:=g7.2;let g9:=g8.2;let g10:=g9.2;let g11:=g10.2;let g12:=g11.2;let g13:=g12.2;let g14:=g13.2;let g15:=g14.2;let g16:=g15.2;let g17:=g16.2;let g18:=g17.2;let g19:=g18.2;let g20:=g19.2;let g21:=g20.2;let g22:=g21.2;let g23:=g22.2;let g24:=g23.2;let g25:=g24.2;let g26:=g25.2;let g27:=g26.2;let g28:=g27.2;let g29:=g28.2;let g30:=g29.2.2;sumElim r3.1 (fun r4=>some ((true,()),((a1,(a3,(f3.1,(g4.1,(g5.1,(g6.1,(g7.1,(g8.1,(g9.1,(g10.1,(g11.1,(g12.1,(g13.1,(g14.1,(g15.1,(g16.1,(g17.1,(g18.1,(f19.1,(g20.1,(g21.1,(g22.1,(g23.1,(g24.1,(g25.1,(g26.1,(g27.1,(g28.1,(g29.1,(g29.2.1,((wI (g30.1+1)),(g30.2.1,(g30.2.2.1,f28))))))))))))))))))))))))))))))))),()))) (fun r4=>some ((false,()),((a1,(a3,(f3.1,(g4.1,(g5.1,(g6.1,(g7.1,(g8.1,(g9.1,(g10.1,(g11.1,(g12.1,(g13.1,(g14.1,(g15.1,(g16.1,(g17.1,(g18.1,(f19.1,(g20.1,(g21.1,(g22.1,(g23.1,(g24.1,(g25.1,(g26.1,(g27.1,(g28.1,(g29.1,(g29.2.1,(g30.1,(g30.2.1,(g30.2.2.1,f28))))))))))))))))))))))))))))))))),())))
noncomputable def E84 (c151:F151) (c152:F152) (c153:F153) (c150:F150) (c149:F149) (l0:A84_0):CEnv:=⟨⟨Tryz.prog,fnsL [g151 c151,g152 c152,g153 c153,g150 c150,g149 c149]⟩,loopsL [(15,e84_0 l0)]⟩
theorem t84_0 (c151:F151) (c152:F152) (c153:F153) (c150:F150) (c149:F149) (l0:A84_0) (again) (x y z):loopRound (E84 c151 c152 c153 c150 c149 l0) (loopAt (bodyOf Tryz.f84) 0) (e84_0 l0) Tryz.f84.ntmps again x y z=w84_0 c151 c152 c153 c150 c149 again x y z:=by kernel_rfl
noncomputable def n84_0 (c151:F151) (c152:F152) (c153:F153) (c150:F150) (c149:F149):Nat→A84_0
  |0,_,_,_=>none
  |n+1,x,y,z=>w84_0 c151 c152 c153 c150 c149 (fun y z=>n84_0 c151 c152 c153 c150 c149 n x y z) x y z
theorem s84 (c151:F151) (c152:F152) (c153:F153) (c150:F150) (c149:F149) (l0:A84_0) (y):tevF (E84 c151 c152 c153 c150 c149 l0) Tryz.f84 i84 o84 y=m84 c151 c152 c153 c150 c149 l0 y:=by kernel_rfl
noncomputable def L84_0:A84_0:=n84_0 r151 r152 r153 r150 r149 fuel
noncomputable def r84:F84:=m84 r151 r152 r153 r150 r149 L84_0
theorem k84:KO (g84 r84):=by
  have hE: ∀g f,(E84 r151 r152 r153 r150 r149 L84_0).env.fns g=some f→CallOk Tryz.prog g f:=fnsL_ok ⟨k151,k152,k153,k150,k149,⟨⟩⟩
  have h0:LoopOk Tryz.prog Tryz.f84.ntmps (loopAt (bodyOf Tryz.f84) 0) (e84_0 L84_0):=lp_ok (E:=E84 r151 r152 r153 r150 r149 L84_0) rfl hE mixed (AllLoops.of_list (l:=[]) (by kernel_rfl) trivial) (n84_0 r151 r152 r153 r150 r149) (fun _ _ _=>rfl) (fun n x y z=>t84_0 r151 r152 r153 r150 r149 L84_0 _ x y z) rfl
  exact fn_ok (E:=E84 r151 r152 r153 r150 r149 L84_0) rfl hE mixed (by kernel_rfl) (by kernel_rfl) (AllLoops.of_list (l:=[(loopAt (bodyOf Tryz.f84) 0)]) (by kernel_rfl) (.one (by kernel_rfl) h0 trivial)) (s84 r151 r152 r153 r150 r149 L84_0)
abbrev i25:Ts:=[.a [.sl false .n, .sl false .i, .sl false .i, .int .i64, .int .i64, .int .i64, .int .i64, .int .i64, .bool, .bool, .bool, .bool, .int .i64, .int .i64, .int .i64, .int .i64, .int .i64, .bool, .sl false .i, .sl false .i, .int .i64, .int .i64, .int .i64, .int .i64, .int .i64, .bool, .bool, .bool, .int .i64, .bool, .int .i64, .sl false .n, .sl false .i, .sl false .i], .v (.int .i64)]
abbrev o25:Ts:=[.a [.sl true .n, .sl true .i, .sl true .i, .int .i64, .int .i64, .int .i64, .int .i64, .int .i64, .bool, .bool, .bool, .bool, .int .i64, .int .i64, .int .i64, .int .i64, .int .i64, .bool, .sl true .i, .sl true .i, .int .i64, .int .i64, .int .i64, .int .i64, .int .i64, .bool, .bool, .bool, .int .i64, .bool, .int .i64, .sl true .n, .sl true .i, .sl true .i], .v (.int .i64)]
abbrev R25:=Option (PTup o25×BTup i25)
abbrev F25:=PTup i25→R25
abbrev g25:=mkG 25 i25 o25
abbrev lc25_0:Ts:=[.v (.int .i64)]
abbrev lb25_0:Ts:=[.p [.sl false .n, .sl false .i, .sl true .i, .int .i64, .int .i64, .int .i64, .int .i64, .int .i64, .bool, .bool, .bool, .bool, .int .i64, .int .i64, .int .i64, .int .i64, .int .i64, .bool, .sl true .i, .sl true .i, .int .i64, .int .i64, .int .i64, .int .i64, .int .i64, .bool, .bool, .bool, .int .i64, .bool, .int .i64, .sl true .n, .sl true .i, .sl true .i]]
abbrev lv25_0:Ts:=[.v (.int .i64)]
abbrev lr25_0:Ts:=[]
abbrev R25_0:=Option (Sum (PTup lv25_0) (PTup lr25_0)×BTup lb25_0)
abbrev B25_0:=PTup lb25_0→PTup lv25_0→R25_0
abbrev A25_0:=PTup lc25_0→B25_0
noncomputable def w25_0 (c84:F84) (c49:F49) (c83:F83) (again:B25_0) (x:PTup lc25_0) (y:PTup lb25_0) (z:PTup lv25_0):R25_0:=
  bif (ltI z.1 (mnI x.1 (3000:Int)))then ((c84 (y.1,())).bind fun r0=>
   bif (!r0.1.1)then (some ((Sum.inl z),((y.1.1,(y.1.2.1,r0.2.1.2.2)),())))
   else again ((y.1.1,(y.1.2.1,r0.2.1.2.2)),()) ((wI (z.1+1)),()))
  else some ((Sum.inl z),(y.1,()))
noncomputable def e25_0 (l:A25_0):LoopE:=⟨[1],lc25_0,[6],lb25_0,[7],lv25_0,[],lr25_0,0,[],l⟩
noncomputable def m25 (c84:F84) (c49:F49) (c83:F83) (l0:A25_0) (y:PTup i25):R25:=
  let X0:R25:=some ((([],([],([],((0:Int),((0:Int),((0:Int),((0:Int),((0:Int),(false,(false,(false,(false,((0:Int),((0:Int),((0:Int),((0:Int),((0:Int),(false,([],([],((0:Int),((0:Int),((0:Int),((0:Int),((0:Int),(false,(false,(false,((0:Int),(false,((0:Int),([],([],([],())))))))))))))))))))))))))))))))))),((0:Int),())),());(c49 (y.1,())).bind fun r0=>bif (!r0.1.1)then X0 else (c83 (y.1,())).bind fun r1=>(l0 y.2 (r1.1.1,()) ((0:Int),())).bind fun r2=>sumElim r2.1 (fun r3=>some (((r1.1.1.1,(r1.1.1.2.1,r2.2.1.2.2)),r3),())) (fun r3=>X0)
noncomputable def E25 (c84:F84) (c49:F49) (c83:F83) (l0:A25_0):CEnv:=⟨⟨Tryz.prog,fnsL [g84 c84,g49 c49,g83 c83]⟩,loopsL [(5,e25_0 l0)]⟩
theorem t25_0 (c84:F84) (c49:F49) (c83:F83) (l0:A25_0) (again) (x y z):loopRound (E25 c84 c49 c83 l0) (loopAt (bodyOf Tryz.f25) 0) (e25_0 l0) Tryz.f25.ntmps again x y z=w25_0 c84 c49 c83 again x y z:=by kernel_rfl
noncomputable def n25_0 (c84:F84) (c49:F49) (c83:F83):Nat→A25_0
  |0,_,_,_=>none
  |n+1,x,y,z=>w25_0 c84 c49 c83 (fun y z=>n25_0 c84 c49 c83 n x y z) x y z
theorem s25 (c84:F84) (c49:F49) (c83:F83) (l0:A25_0) (y):tevF (E25 c84 c49 c83 l0) Tryz.f25 i25 o25 y=m25 c84 c49 c83 l0 y:=by kernel_rfl
noncomputable def L25_0:A25_0:=n25_0 r84 r49 r83 fuel
noncomputable def r25:F25:=m25 r84 r49 r83 L25_0
theorem k25:KO (g25 r25):=by
  have hE: ∀g f,(E25 r84 r49 r83 L25_0).env.fns g=some f→CallOk Tryz.prog g f:=fnsL_ok ⟨k84,k49,k83,⟨⟩⟩
  have h0:LoopOk Tryz.prog Tryz.f25.ntmps (loopAt (bodyOf Tryz.f25) 0) (e25_0 L25_0):=lp_ok (E:=E25 r84 r49 r83 L25_0) rfl hE mixed (AllLoops.of_list (l:=[]) (by kernel_rfl) trivial) (n25_0 r84 r49 r83) (fun _ _ _=>rfl) (fun n x y z=>t25_0 r84 r49 r83 L25_0 _ x y z) rfl
  exact fn_ok (E:=E25 r84 r49 r83 L25_0) rfl hE mixed (by kernel_rfl) (by kernel_rfl) (AllLoops.of_list (l:=[(loopAt (bodyOf Tryz.f25) 0)]) (by kernel_rfl) (.one (by kernel_rfl) h0 trivial)) (s25 r84 r49 r83 L25_0)
abbrev i17:Ts:=[.a q11]
abbrev o17:Ts:=[.a [.sl true .n, .sl true .i, .sl true .i, .int .i64, .int .i64, .int .i64, .int .i64, .int .i64, .bool, .bool, .bool, .bool, .int .i64, .int .i64, .int .i64, .int .i64, .int .i64, .bool, .sl true .i, .sl true .i, .int .i64, .int .i64, .int .i64, .int .i64, .int .i64, .bool, .bool, .bool, .int .i64, .bool, .int .i64, .sl true .n, .sl true .i, .sl true .i]]
abbrev F17:=FT i17 o17
abbrev g17:=mkG 17 i17 o17
noncomputable def m17 (c24:F24) (c25:F25) (c73:F73) (y:PTup i17):Option (PTup o17×BTup i17):=
  (c73 (y.1,())).bind fun r0=>
  bif (!r0.1.1)then (some ((([],([],([],((0:Int),((0:Int),((0:Int),((0:Int),((0:Int),(false,(false,(false,(false,((0:Int),((0:Int),((0:Int),((0:Int),((0:Int),(false,([],([],((0:Int),((0:Int),((0:Int),((0:Int),((0:Int),(false,(false,(false,((0:Int),(false,((0:Int),([],([],([],())))))))))))))))))))))))))))))))))),()),()))
  else (c24 ((y.1.1,()),(y.1.2.1,()))).bind fun r1=>
  (c25 (r1.1.1,(y.1.2.2.2.2.2.2.2.2.2.2.2.2.2.2.2.2.2.2.2.1,()))).bind fun r2=>
  some ((r2.1.1,()),())
theorem s17 (c24:F24) (c25:F25) (c73:F73) (y):TE [g24 c24,g25 c25,g73 c73] Tryz.f17 i17 o17 y=m17 c24 c25 c73 y:=by kernel_rfl
noncomputable def r17:F17:=m17 r24 r25 r73
theorem k17:KO (g17 r17):=fk (s17 r24 r25 r73) ⟨k24,k25,k73,⟨⟩⟩ (by kernel_rfl)
abbrev i20:Ts:=[.a q11]
abbrev o20:Ts:=[.a [.sl true .n, .sl true .i, .sl true .i]]
abbrev F20:=FT i20 o20
abbrev g20:=mkG 20 i20 o20
noncomputable def m20 (c74:F74) (c75:F75) (y:PTup i20):Option (PTup o20×BTup i20):=
  (c74 (y.1.2.2.2.2.2.2.2.2.2.2.2.2.2.2.2.2.2.2.2.2.2.2.2.2.2.2.2.2.2.2.2.1,())).bind fun r0=>
  (c75 y.1.2.2.2.2.2.2.2.2.2.2.2.2.2.2.2.2.2.2.2.2.2.2.2.2.2.2.2.2.2.2.2.2.2.2.2.2.2.2.2.2.2).bind fun r1=>
  (c75 (y.1.2.2.2.2.2.2.2.2.2.2.2.2.2.2.2.2.2.2.2.2.1,())).bind fun r2=>
  some (((r0.1.1,(r1.1.1,r2.1)),()),())
theorem s20 (c74:F74) (c75:F75) (y):TE [g74 c74,g75 c75] Tryz.f20 i20 o20 y=m20 c74 c75 y:=by kernel_rfl
noncomputable def r20:F20:=m20 r74 r75
theorem k20:KO (g20 r20):=fk (s20 r74 r75) ⟨k74,k75,⟨⟩⟩ (by kernel_rfl)
abbrev i77:Ts:=[.v (.sl false .i), .v (.sl false .i)]
abbrev o77:Ts:=[.v (.bool)]
abbrev F77:=FT i77 o77
abbrev g77:=mkG 77 i77 o77
abbrev lc77_0:Ts:=[.v (.sl false .i), .v (.sl false .i), .v (.int .i64)]
abbrev lb77_0:Ts:=[]
abbrev lv77_0:Ts:=[.v (.int .i64)]
abbrev lr77_0:Ts:=[.v (.bool)]
abbrev R77_0:=Option (Sum (PTup lv77_0) (PTup lr77_0)×BTup lb77_0)
abbrev B77_0:=PTup lb77_0→PTup lv77_0→R77_0
abbrev A77_0:=PTup lc77_0→B77_0
noncomputable def w77_0 (again:B77_0) (x:PTup lc77_0) (y:PTup lb77_0) (z:PTup lv77_0):R77_0:=
  bif (ltI z.1 x.2.2.1)then (bif (leI 0 z.1)then (bif (ltI z.1 (lenI x.1))then (bif (leI 0 z.1)then (bif (ltI z.1 (lenI x.2.1))then (bif (neI (rdE .i x.1 z.1) (rdE .i x.2.1 z.1))then (some ((Sum.inr (false,())),()))
       else again () ((wI (z.1+1)),()))
      else none)
     else none)
    else none)
   else none)
  else some ((Sum.inl z),())
noncomputable def e77_0 (l:A77_0):LoopE:=⟨[0,1,12],lc77_0,[],lb77_0,[13],lv77_0,[4],lr77_0,0,[],l⟩
noncomputable def m77 (l0:A77_0) (y:PTup i77):Option (PTup o77×BTup i77):=
  bif (neI (lenI y.1) (lenI y.2.1))then no
  else (l0 (y.1,(y.2.1,((lenI y.1),()))) () ((0:Int),())).bind fun r0=>
  sumElim r0.1 (fun r1=>some ((true,()),()))
  (fun r1=>some (r1,()))
noncomputable def E77 (l0:A77_0):CEnv:=⟨⟨Tryz.prog,fnsL []⟩,loopsL [(4,e77_0 l0)]⟩
theorem t77_0 (l0:A77_0) (again) (x y z):loopRound (E77 l0) (loopAt (bodyOf Tryz.f77) 0) (e77_0 l0) Tryz.f77.ntmps again x y z=w77_0 again x y z:=by kernel_rfl
noncomputable def n77_0:Nat→A77_0
  |0,_,_,_=>none
  |n+1,x,y,z=>w77_0 (fun y z=>n77_0 n x y z) x y z
theorem s77 (l0:A77_0) (y):tevF (E77 l0) Tryz.f77 i77 o77 y=m77 l0 y:=by kernel_rfl
noncomputable def L77_0:A77_0:=n77_0 fuel
noncomputable def r77:F77:=m77 L77_0
theorem k77:KO (g77 r77):=by
  have hE: ∀g f,(E77 L77_0).env.fns g=some f→CallOk Tryz.prog g f:=fnsL_ok trivial
  have h0:LoopOk Tryz.prog Tryz.f77.ntmps (loopAt (bodyOf Tryz.f77) 0) (e77_0 L77_0):=lp_ok (E:=E77 L77_0) rfl hE mixed (AllLoops.of_list (l:=[]) (by kernel_rfl) trivial) (n77_0) (fun _ _ _=>rfl) (fun n x y z=>t77_0 L77_0 _ x y z) rfl
  exact fn_ok (E:=E77 L77_0) rfl hE mixed (by kernel_rfl) (by kernel_rfl) (AllLoops.of_list (l:=[(loopAt (bodyOf Tryz.f77) 0)]) (by kernel_rfl) (.one (by kernel_rfl) h0 trivial)) (s77 L77_0)
abbrev i89:Ts:=[.v (.sl false .i), .v (.sl false .i)]
abbrev o89:Ts:=[.v (.bool)]
abbrev F89:=FT i89 o89
abbrev g89:=mkG 89 i89 o89
noncomputable def m89 (c77:F77) (y:PTup i89):Option (PTup o89×BTup i89):=
  (c77 y).bind fun r0=>
  some (r0.1,())
theorem s89 (c77:F77) (y):TE [g77 c77] Tryz.f89 i89 o89 y=m89 c77 y:=by kernel_rfl
noncomputable def r89:F89:=m89 r77
theorem k89:KO (g89 r89):=fk (s89 r77) ⟨k77,⟨⟩⟩ (by kernel_rfl)
abbrev i88:Ts:=[.v (.sl false .n), .v (.sl false .n), .v (.fn 89)]
abbrev o88:Ts:=[.v (.bool)]
abbrev F88:=FT i88 o88
abbrev g88:=mkG 88 i88 o88
abbrev lc88_0:Ts:=[.v (.sl false .n), .v (.fn 89), .v (.sl false .n), .v (.int .i64)]
abbrev lb88_0:Ts:=[]
abbrev lv88_0:Ts:=[.v (.int .i64)]
abbrev lr88_0:Ts:=[.v (.bool)]
abbrev R88_0:=Option (Sum (PTup lv88_0) (PTup lr88_0)×BTup lb88_0)
abbrev B88_0:=PTup lb88_0→PTup lv88_0→R88_0
abbrev A88_0:=PTup lc88_0→B88_0
noncomputable def w88_0 (c89:F89) (again:B88_0) (x:PTup lc88_0) (y:PTup lb88_0) (z:PTup lv88_0):R88_0:=
  bif (ltI z.1 x.2.2.2.1)then (bif (leI 0 z.1)then (bif (ltI z.1 (lenI x.2.2.1))then (bif (leI 0 z.1)then (bif (ltI z.1 (lenI x.1))then ((c89 ((rdE .n x.2.2.1 z.1),((rdE .n x.1 z.1),()))).bind fun r0=>
       bif (!r0.1.1)then (some ((Sum.inr (false,())),()))
       else again () ((wI (z.1+1)),()))
      else none)
     else none)
    else none)
   else none)
  else some ((Sum.inl z),())
noncomputable def e88_0 (l:A88_0):LoopE:=⟨[1,2,15,16],lc88_0,[],lb88_0,[17],lv88_0,[6],lr88_0,0,[],l⟩
noncomputable def m88 (c89:F89) (l0:A88_0) (y:PTup i88):Option (PTup o88×BTup i88):=
  bif (neI (lenI y.1) (lenI y.2.1))then no
  else (l0 (y.2.1,((),(y.1,((lenI y.1),())))) () ((0:Int),())).bind fun r0=>
  sumElim r0.1 (fun r1=>some ((true,()),()))
  (fun r1=>some (r1,()))
noncomputable def E88 (c89:F89) (l0:A88_0):CEnv:=⟨⟨Tryz.prog,fnsL [g89 c89]⟩,loopsL [(4,e88_0 l0)]⟩
theorem t88_0 (c89:F89) (l0:A88_0) (again) (x y z):loopRound (E88 c89 l0) (loopAt (bodyOf Tryz.f88) 0) (e88_0 l0) Tryz.f88.ntmps again x y z=w88_0 c89 again x y z:=by kernel_rfl
noncomputable def n88_0 (c89:F89):Nat→A88_0
  |0,_,_,_=>none
  |n+1,x,y,z=>w88_0 c89 (fun y z=>n88_0 c89 n x y z) x y z
theorem s88 (c89:F89) (l0:A88_0) (y):tevF (E88 c89 l0) Tryz.f88 i88 o88 y=m88 c89 l0 y:=by kernel_rfl
noncomputable def L88_0:A88_0:=n88_0 r89 fuel
noncomputable def r88:F88:=m88 r89 L88_0
theorem k88:KO (g88 r88):=by
  have hE: ∀g f,(E88 r89 L88_0).env.fns g=some f→CallOk Tryz.prog g f:=fnsL_ok ⟨k89,⟨⟩⟩
  have h0:LoopOk Tryz.prog Tryz.f88.ntmps (loopAt (bodyOf Tryz.f88) 0) (e88_0 L88_0):=lp_ok (E:=E88 r89 L88_0) rfl hE mixed (AllLoops.of_list (l:=[]) (by kernel_rfl) trivial) (n88_0 r89) (fun _ _ _=>rfl) (fun n x y z=>t88_0 r89 L88_0 _ x y z) rfl
  exact fn_ok (E:=E88 r89 L88_0) rfl hE mixed (by kernel_rfl) (by kernel_rfl) (AllLoops.of_list (l:=[(loopAt (bodyOf Tryz.f88) 0)]) (by kernel_rfl) (.one (by kernel_rfl) h0 trivial)) (s88 r89 L88_0)
abbrev i29:Ts:=[.a [.sl false .n, .sl false .i, .sl false .i], .a [.sl false .n, .sl false .i, .sl false .i]]
abbrev o29:Ts:=[.v (.bool)]
abbrev F29:=FT i29 o29
abbrev g29:=mkG 29 i29 o29
noncomputable def m29 (c88:F88) (c77:F77) (y:PTup i29):Option (PTup o29×BTup i29):=
  (c88 (y.1.1,(y.2.1.1,((),())))).bind fun r0=>
  bif r0.1.1 then ((c77 (y.1.2.1,(y.2.1.2.1,()))).bind fun r1=>
   bif r1.1.1 then ((c77 (y.1.2.2.1,y.2.1.2.2)).bind fun r2=>
    some (r2.1,()))
   else no)
  else no
theorem s29 (c88:F88) (c77:F77) (y):TE [g88 c88,g77 c77] Tryz.f29 i29 o29 y=m29 c88 c77 y:=by kernel_rfl
noncomputable def r29:F29:=m29 r88 r77
theorem k29:KO (g29 r29):=fk (s29 r88 r77) ⟨k88,k77,⟨⟩⟩ (by kernel_rfl)
abbrev i76:Ts:=[.a q3, .a q3]
abbrev o76:Ts:=[.v (.bool)]
abbrev F76:=FT i76 o76
abbrev g76:=mkG 76 i76 o76
noncomputable def m76 (c77:F77) (y:PTup i76):Option (PTup o76×BTup i76):=
  bif (eqI y.1.2.1 y.2.1.2.1)then ((c77 (y.1.1,(y.2.1.1,()))).bind fun r0=>
   some (r0.1,()))
  else no
theorem s76 (c77:F77) (y):TE [g77 c77] Tryz.f76 i76 o76 y=m76 c77 y:=by kernel_rfl
noncomputable def r76:F76:=m76 r77
theorem k76:KO (g76 r76):=fk (s76 r77) ⟨k77,⟨⟩⟩ (by kernel_rfl)
abbrev i145:Ts:=[.p q13, .v (.int .i64)]
abbrev o145:Ts:=[]
abbrev F145:=FT i145 o145
abbrev g145:=mkG 145 i145 o145
abbrev lc145_0:Ts:=[.v (.int .i64)]
abbrev lb145_0:Ts:=[.p q13]
abbrev lv145_0:Ts:=[]
abbrev lr145_0:Ts:=[]
abbrev R145_0:=Option (Sum (PTup lv145_0) (PTup lr145_0)×BTup lb145_0)
abbrev B145_0:=PTup lb145_0→PTup lv145_0→R145_0
abbrev A145_0:=PTup lc145_0→B145_0
noncomputable def w145_0 (c134:F134) (again:B145_0) (x:PTup lc145_0) (y:PTup lb145_0) (z:PTup lv145_0):R145_0:=
  (c134 (y.1,x)).bind fun r0=>
  bif r0.1.1 then (again (r0.2.1,()) ())
  else some ((Sum.inl ()),(r0.2.1,()))
noncomputable def e145_0 (l:A145_0):LoopE:=⟨[1],lc145_0,[0],lb145_0,[],lv145_0,[],lr145_0,0,[],l⟩
noncomputable def m145 (c134:F134) (l0:A145_0) (y:PTup i145):Option (PTup o145×BTup i145):=
  (l0 y.2 (y.1,()) ()).bind fun r0=>
  sumElim r0.1 (fun r1=>some ((),(r0.2.1,())))
  (fun r1=>some ((),(r0.2.1,())))
noncomputable def E145 (c134:F134) (l0:A145_0):CEnv:=⟨⟨Tryz.prog,fnsL [g134 c134]⟩,loopsL [(0,e145_0 l0)]⟩
theorem t145_0 (c134:F134) (l0:A145_0) (again) (x y z):loopRound (E145 c134 l0) (loopAt (bodyOf Tryz.f145) 0) (e145_0 l0) Tryz.f145.ntmps again x y z=w145_0 c134 again x y z:=by kernel_rfl
noncomputable def n145_0 (c134:F134):Nat→A145_0
  |0,_,_,_=>none
  |n+1,x,y,z=>w145_0 c134 (fun y z=>n145_0 c134 n x y z) x y z
theorem s145 (c134:F134) (l0:A145_0) (y):tevF (E145 c134 l0) Tryz.f145 i145 o145 y=m145 c134 l0 y:=by kernel_rfl
noncomputable def L145_0:A145_0:=n145_0 r134 fuel
noncomputable def r145:F145:=m145 r134 L145_0
theorem k145:KO (g145 r145):=by
  have hE: ∀g f,(E145 r134 L145_0).env.fns g=some f→CallOk Tryz.prog g f:=fnsL_ok ⟨k134,⟨⟩⟩
  have h0:LoopOk Tryz.prog Tryz.f145.ntmps (loopAt (bodyOf Tryz.f145) 0) (e145_0 L145_0):=lp_ok (E:=E145 r134 L145_0) rfl hE mixed (AllLoops.of_list (l:=[]) (by kernel_rfl) trivial) (n145_0 r134) (fun _ _ _=>rfl) (fun n x y z=>t145_0 r134 L145_0 _ x y z) rfl
  exact fn_ok (E:=E145 r134 L145_0) rfl hE mixed (by kernel_rfl) (by kernel_rfl) (AllLoops.of_list (l:=[(loopAt (bodyOf Tryz.f145) 0)]) (by kernel_rfl) (.one (by kernel_rfl) h0 trivial)) (s145 r134 L145_0)
abbrev i146:Ts:=[.p q14, .v (.int .i64)]
abbrev o146:Ts:=[]
abbrev F146:=FT i146 o146
abbrev g146:=mkG 146 i146 o146
abbrev lc146_0:Ts:=[.v (.int .i64)]
abbrev lb146_0:Ts:=[.p q14]
abbrev lv146_0:Ts:=[]
abbrev lr146_0:Ts:=[]
abbrev R146_0:=Option (Sum (PTup lv146_0) (PTup lr146_0)×BTup lb146_0)
abbrev B146_0:=PTup lb146_0→PTup lv146_0→R146_0
abbrev A146_0:=PTup lc146_0→B146_0
noncomputable def w146_0 (c135:F135) (again:B146_0) (x:PTup lc146_0) (y:PTup lb146_0) (z:PTup lv146_0):R146_0:=
  (c135 (y.1,x)).bind fun r0=>
  bif r0.1.1 then (again (r0.2.1,()) ())
  else some ((Sum.inl ()),(r0.2.1,()))
noncomputable def e146_0 (l:A146_0):LoopE:=⟨[1],lc146_0,[0],lb146_0,[],lv146_0,[],lr146_0,0,[],l⟩
noncomputable def m146 (c135:F135) (l0:A146_0) (y:PTup i146):Option (PTup o146×BTup i146):=
  (l0 y.2 (y.1,()) ()).bind fun r0=>
  sumElim r0.1 (fun r1=>some ((),(r0.2.1,())))
  (fun r1=>some ((),(r0.2.1,())))
noncomputable def E146 (c135:F135) (l0:A146_0):CEnv:=⟨⟨Tryz.prog,fnsL [g135 c135]⟩,loopsL [(0,e146_0 l0)]⟩
theorem t146_0 (c135:F135) (l0:A146_0) (again) (x y z):loopRound (E146 c135 l0) (loopAt (bodyOf Tryz.f146) 0) (e146_0 l0) Tryz.f146.ntmps again x y z=w146_0 c135 again x y z:=by kernel_rfl
noncomputable def n146_0 (c135:F135):Nat→A146_0
  |0,_,_,_=>none
  |n+1,x,y,z=>w146_0 c135 (fun y z=>n146_0 c135 n x y z) x y z
theorem s146 (c135:F135) (l0:A146_0) (y):tevF (E146 c135 l0) Tryz.f146 i146 o146 y=m146 c135 l0 y:=by kernel_rfl
noncomputable def L146_0:A146_0:=n146_0 r135 fuel
noncomputable def r146:F146:=m146 r135 L146_0
theorem k146:KO (g146 r146):=by
  have hE: ∀g f,(E146 r135 L146_0).env.fns g=some f→CallOk Tryz.prog g f:=fnsL_ok ⟨k135,⟨⟩⟩
  have h0:LoopOk Tryz.prog Tryz.f146.ntmps (loopAt (bodyOf Tryz.f146) 0) (e146_0 L146_0):=lp_ok (E:=E146 r135 L146_0) rfl hE mixed (AllLoops.of_list (l:=[]) (by kernel_rfl) trivial) (n146_0 r135) (fun _ _ _=>rfl) (fun n x y z=>t146_0 r135 L146_0 _ x y z) rfl
  exact fn_ok (E:=E146 r135 L146_0) rfl hE mixed (by kernel_rfl) (by kernel_rfl) (AllLoops.of_list (l:=[(loopAt (bodyOf Tryz.f146) 0)]) (by kernel_rfl) (.one (by kernel_rfl) h0 trivial)) (s146 r135 L146_0)
abbrev i78:Ts:=[.p [.sl false .n, .sl false .i, .sl false .i, .int .i64, .int .i64, .int .i64, .int .i64, .int .i64, .bool, .bool, .bool, .bool, .bool, .int .i64, .int .i64, .bool, .int .i64, .bool, .int .i64, .int .i64, .sl false .i, .int .i64, .int .i64, .int .i64, .int .i64, .int .i64, .bool, .sl true .i, .sl true .i, .int .i64, .sl true .t, .sl true .n, .int .i64, .int .i64, .int .i64, .int .i64, .int .i64, .bool, .bool, .int .i64, .sl true .t, .sl true .i]]
abbrev o78:Ts:=[]
abbrev F78:=FT i78 o78
abbrev g78:=mkG 78 i78 o78
noncomputable def m78 (c145:F145) (c146:F146) (y:PTup i78):Option (PTup o78×BTup i78):=
  let a0:=y.1;let a1:=a0.2;let a2:=a1.2;let a3:=a2.2;let a4:=a3.2;let a5:=a4.2;let a6:=a5.2;let a7:=a6.2;let a8:=a7.2;let a9:=a8.2;let a10:=a9.2;let a11:=a10.2;let a12:=a11.2;let a13:=a12.2;let a14:=a13.2;let a15:=a14.2;let a16:=a15.2;let a17:=a16.2;let a18:=a17.2;let a19:=a18.2;let a20:=a19.2;let a21:=a20.2;let a22:=a21.2;let a23:=a22.2;let a24:=a23.2.2;let a25:=a24.2.2;(c145 ((a21.1,(a22.1,(a23.1,(a23.2.1,(a24.1,(a24.2.1,(a25.1,(a25.2.1,(a25.2.2.1,(a25.2.2.2.1,(a25.2.2.2.2.1,()))))))))))),(a14.1,()))).bind fun r0=>
  (c146 (a25.2.2.2.2.2,(a14.1,()))).bind fun r1=>
  some ((),((a0.1,(a1.1,(a2.1,(a3.1,(a4.1,(a5.1,(a6.1,(a7.1,(a8.1,(a9.1,(a10.1,(a11.1,(a12.1,(a13.1,(a14.1,(a15.1,(a16.1,(a17.1,(a18.1,(a19.1,(a20.1,(r0.2.1.1,(r0.2.1.2.1,(r0.2.1.2.2.1,(r0.2.1.2.2.2.1,(r0.2.1.2.2.2.2.1,(r0.2.1.2.2.2.2.2.1,(r0.2.1.2.2.2.2.2.2.1,(r0.2.1.2.2.2.2.2.2.2.1,(r0.2.1.2.2.2.2.2.2.2.2.1,(r0.2.1.2.2.2.2.2.2.2.2.2.1,(r0.2.1.2.2.2.2.2.2.2.2.2.2.1,r1.2.1)))))))))))))))))))))))))))))))),()))
theorem s78 (c145:F145) (c146:F146) (y):TE [g145 c145,g146 c146] Tryz.f78 i78 o78 y=m78 c145 c146 y:=by kernel_rfl
noncomputable def r78:F78:=m78 r145 r146
theorem k78:KO (g78 r78):=fk (s78 r145 r146) ⟨k145,k146,⟨⟩⟩ (by kernel_rfl)
abbrev i23:Ts:=[.a q11]
abbrev o23:Ts:=[.a q12]
abbrev F23:=FT i23 o23
abbrev g23:=mkG 23 i23 o23
noncomputable def m23 (c78:F78) (c16:F16) (c58:F58) (y:PTup i23):Option (PTup o23×BTup i23):=
  (c58 (y.1,())).bind fun r0=>
  (c16 (y.1,())).bind fun r1=>
  bif r1.1.1 then ((c78 (r0.1.1,())).bind fun r2=>let f0:=r2.2;let f1:=f0.1;let f2:=f1.2;let f3:=f2.2;let f4:=f3.2;let f5:=f4.2;let f6:=f5.2;let f7:=f6.2;let f8:=f7.2;let f9:=f8.2;let f10:=f9.2.2;let f11:=f10.2;let f12:=f11.2.2;let f13:=f12.2.2;some (((r0.1.1.1,(r0.1.1.2.1,(r0.1.1.2.2.1,(f4.1,(f5.1,(f6.1,(f7.1,(f8.1,(f9.1,(f9.2.1,(f10.1,(f11.1,(f11.2.1,(f12.1,(f12.2.1,(f13.1,(f13.2.1,(f13.2.2.1,(f13.2.2.2.1,(f13.2.2.2.2.1,(r0.1.1.2.2.2.2.2.2.2.2.2.2.2.2.2.2.2.2.2.2.2.2.1,f13.2.2.2.2.2.2))))))))))))))))))))),()),()))
  else some ((r0.1.1,()),())
theorem s23 (c78:F78) (c16:F16) (c58:F58) (y):TE [g78 c78,g16 c16,g58 c58] Tryz.f23 i23 o23 y=m23 c78 c16 c58 y:=by kernel_rfl
noncomputable def r23:F23:=m23 r78 r16 r58
theorem k23:KO (g23 r23):=fk (s23 r78 r16 r58) ⟨k78,k16,k58,⟨⟩⟩ (by kernel_rfl)
abbrev i27:Ts:=[.a q11]
abbrev o27:Ts:=[.a [.sl true .n, .sl true .i, .sl true .i, .int .i64, .int .i64, .int .i64, .int .i64, .int .i64, .bool, .bool, .bool, .bool, .int .i64, .int .i64, .int .i64, .int .i64, .int .i64, .bool, .sl true .i, .sl true .i, .int .i64, .int .i64, .int .i64, .int .i64, .int .i64, .bool, .bool, .bool, .int .i64, .bool, .int .i64, .sl true .n, .sl true .i, .sl true .i]]
abbrev R27:=Option (PTup o27×BTup i27)
abbrev F27:=PTup i27→R27
abbrev g27:=mkG 27 i27 o27
noncomputable def m27 (c86:F86) (c87:F87) (c20:F20) (c16:F16) (c58:F58) (y:PTup i27):R27:=
  let a0:=y.1;let a1:=a0.2;let a2:=a1.2;let a3:=a2.2;let a4:=a3.2;let a5:=a4.2;let a6:=a5.2;let a7:=a6.2;let a8:=a7.2;let a9:=a8.2;let a10:=a9.2.2;let a11:=a10.2;let a12:=a11.2;let a13:=a12.2.2;let a14:=a13.2.2;let a15:=a14.2.2;let a16:=a15.2.2;let a17:=a16.2.2;let a18:=a17.2.2;let a19:=a18.2.2;let a20:=a19.2.2;let a21:=a20.2.2;let a22:=a21.2.2;let X0:R27:=some ((([],([],([],((0:Int),((0:Int),((0:Int),((0:Int),((0:Int),(false,(false,(false,(false,((0:Int),((0:Int),((0:Int),((0:Int),((0:Int),(false,([],([],((0:Int),((0:Int),((0:Int),((0:Int),((0:Int),(false,(false,(false,((0:Int),(false,((0:Int),([],([],([],())))))))))))))))))))))))))))))))))),()),());(c16 (a0,())).bind fun r0=>bif (!r0.1.1)then X0 else (c86 (a0,())).bind fun r1=>bif (!r1.1.1)then X0 else (c87 (a0,())).bind fun r2=>bif (!r2.1.1)then X0 else (c58 (a0,())).bind fun r3=>(c20 (r3.1.1,())).bind fun r4=>some (((r3.1.1.1,(r3.1.1.2.1,(r3.1.1.2.2.1,(r3.1.1.2.2.2.1,(a4.1,(a5.1,(a6.1,(a7.1,(a8.1,(a9.1,(a9.2.1,(a10.1,(r3.1.1.2.2.2.2.2.2.2.2.2.2.2.2.2.2.2.2.2.2.2.2.2.1,(r3.1.1.2.2.2.2.2.2.2.2.2.2.2.2.2.2.2.2.2.2.2.2.2.2.1,(r3.1.1.2.2.2.2.2.2.2.2.2.2.2.2.2.2.2.2.2.2.2.2.2.2.2.1,(r3.1.1.2.2.2.2.2.2.2.2.2.2.2.2.2.2.2.2.2.2.2.2.2.2.2.2.1,(r3.1.1.2.2.2.2.2.2.2.2.2.2.2.2.2.2.2.2.2.2.2.2.2.2.2.2.2.1,(r3.1.1.2.2.2.2.2.2.2.2.2.2.2.2.2.2.2.2.2.2.2.2.2.2.2.2.2.2.1,(r3.1.1.2.2.2.2.2.2.2.2.2.2.2.2.2.2.2.2.2.2.2.2.2.2.2.2.2.2.2.1,(r3.1.1.2.2.2.2.2.2.2.2.2.2.2.2.2.2.2.2.2.2.2.2.2.2.2.2.2.2.2.2.1,(a21.2.1,(a22.1,(a22.2.1,(a22.2.2.1,(a22.2.2.2.1,(a22.2.2.2.2.1,(a22.2.2.2.2.2.1,(a11.1,(a12.1,(a13.1,(a15.1,r4.1.1))))))))))))))))))))))))))))))),()),())
theorem s27 (c86:F86) (c87:F87) (c20:F20) (c16:F16) (c58:F58) (y):TE [g86 c86,g87 c87,g20 c20,g16 c16,g58 c58] Tryz.f27 i27 o27 y=m27 c86 c87 c20 c16 c58 y:=by kernel_rfl
noncomputable def r27:F27:=m27 r86 r87 r20 r16 r58
theorem k27:KO (g27 r27):=fk (s27 r86 r87 r20 r16 r58) ⟨k86,k87,k20,k16,k58,⟨⟩⟩ (by kernel_rfl)
abbrev i85:Ts:=[.a q6, .a q6]
abbrev o85:Ts:=[.v (.bool)]
abbrev F85:=FT i85 o85
abbrev g85:=mkG 85 i85 o85
noncomputable def m85 (c77:F77) (y:PTup i85):Option (PTup o85×BTup i85):=
  bif (eqI y.1.1 y.2.1.1)then (bif (eqI y.1.2.1 y.2.1.2.1)then (bif (eqI y.1.2.2.1 y.2.1.2.2.1)then (bif (eqI y.1.2.2.2.1 y.2.1.2.2.2.1)then (bif (eqI y.1.2.2.2.2.1 y.2.1.2.2.2.2.1)then (bif (y.1.2.2.2.2.2.1==y.2.1.2.2.2.2.2.1)then ((c77 (y.1.2.2.2.2.2.2.1,(y.2.1.2.2.2.2.2.2.1,()))).bind fun r0=>
        bif r0.1.1 then ((c77 (y.1.2.2.2.2.2.2.2.1,y.2.1.2.2.2.2.2.2.2)).bind fun r1=>
         some (r1.1,()))
        else no)
       else no)
      else no)
     else no)
    else no)
   else no)
  else no
theorem s85 (c77:F77) (y):TE [g77 c77] Tryz.f85 i85 o85 y=m85 c77 y:=by kernel_rfl
noncomputable def r85:F85:=m85 r77
theorem k85:KO (g85 r85):=fk (s85 r77) ⟨k77,⟨⟩⟩ (by kernel_rfl)
abbrev i26:Ts:=[.a [.sl false .n, .sl false .i, .sl false .i, .int .i64, .int .i64, .int .i64, .int .i64, .int .i64, .bool, .bool, .bool, .bool, .int .i64, .int .i64, .int .i64, .int .i64, .int .i64, .bool, .sl false .i, .sl false .i, .int .i64, .int .i64, .int .i64, .int .i64, .int .i64, .bool, .bool, .bool, .int .i64, .bool, .int .i64, .sl false .n, .sl false .i, .sl false .i], .a [.sl false .n, .sl false .i, .sl false .i, .int .i64, .int .i64, .int .i64, .int .i64, .int .i64, .bool, .bool, .bool, .bool, .int .i64, .int .i64, .int .i64, .int .i64, .int .i64, .bool, .sl false .i, .sl false .i, .int .i64, .int .i64, .int .i64, .int .i64, .int .i64, .bool, .bool, .bool, .int .i64, .bool, .int .i64, .sl false .n, .sl false .i, .sl false .i]]
abbrev o26:Ts:=[.v (.bool)]
abbrev F26:=FT i26 o26
abbrev g26:=mkG 26 i26 o26
noncomputable def m26 (c29:F29) (c76:F76) (c85:F85) (y:PTup i26):Option (PTup o26×BTup i26):=
  let a0:=y.1;let a1:=y.2;let a2:=a0.2;let a3:=a1.1;let a4:=a2.2;let a5:=a3.2;let a6:=a4.2;let a7:=a5.2;let a8:=a6.2;let a9:=a7.2;let a10:=a8.2;let a11:=a9.2;let a12:=a10.2;let a13:=a11.2;let a14:=a12.2;let a15:=a13.2;let a16:=a14.2;let a17:=a15.2;let a18:=a16.2;let a19:=a17.2;let a20:=a18.2;let a21:=a19.2;let a22:=a20.2;let a23:=a21.2;let a24:=a22.2;let a25:=a23.2;let a26:=a24.2;let a27:=a25.2;let a28:=a26.2;let a29:=a27.2;let a30:=a28.2;let a31:=a29.2;let a32:=a30.2;let a33:=a31.2;let a34:=a32.2;let a35:=a33.2;let a36:=a34.2;let a37:=a35.2;let a38:=a36.2;let a39:=a37.2;let a40:=a38.2;let a41:=a39.2;let a42:=a40.2;let a43:=a41.2;let a44:=a42.2;let a45:=a43.2;let a46:=a45.2;let a47:=a44.2.2;let a48:=a46.2.2;let a49:=a47.2.2;let a50:=a48.2.2;bif ((eqI a8.1 a11.1)&&((eqI a10.1 a13.1)&&((eqI a12.1 a15.1)&&((eqI a14.1 a17.1)&&((a16.1==a19.1)&&((a18.1==a21.1)&&((a20.1==a23.1)&&((a22.1==a25.1)&&true))))))))then (bif ((eqI a40.1 a43.1)&&((eqI a42.1 a45.1)&&((eqI a44.1 a46.1)&&((eqI a44.2.1 a46.2.1)&&((eqI a47.1 a48.1)&&((a47.2.1==a48.2.1)&&((a49.1==a50.1)&&true)))))))then (bif ((a49.2.1==a50.2.1)&&((eqI a49.2.2.1 a50.2.2.1)&&true))then (bif (a49.2.2.2.1==a50.2.2.2.1)then (bif (eqI a49.2.2.2.2.1 a50.2.2.2.2.1)then ((c76 ((a4.1,(a6.1,())),((a7.1,(a9.1,())),()))).bind fun r0=>
       bif r0.1.1 then ((c85 ((a24.1,(a26.1,(a28.1,(a30.1,(a32.1,(a34.1,(a36.1,(a38.1,())))))))),((a27.1,(a29.1,(a31.1,(a33.1,(a35.1,(a37.1,(a39.1,(a41.1,())))))))),()))).bind fun r1=>
        bif r1.1.1 then ((c29 (a49.2.2.2.2.2,(a50.2.2.2.2.2,()))).bind fun r2=>
         some (r2.1,()))
        else no)
       else no)
      else no)
     else no)
    else no)
   else no)
  else no
theorem s26 (c29:F29) (c76:F76) (c85:F85) (y):TE [g29 c29,g76 c76,g85 c85] Tryz.f26 i26 o26 y=m26 c29 c76 c85 y:=by kernel_rfl
noncomputable def r26:F26:=m26 r29 r76 r85
theorem k26:KO (g26 r26):=fk (s26 r29 r76 r85) ⟨k29,k76,k85,⟨⟩⟩ (by kernel_rfl)
abbrev i28:Ts:=[.a q11]
abbrev o28:Ts:=[.v (.bool)]
abbrev F28:=FT i28 o28
abbrev g28:=mkG 28 i28 o28
noncomputable def m28 (c27:F27) (c23:F23) (c26:F26) (c17:F17) (c73:F73) (y:PTup i28):Option (PTup o28×BTup i28):=
  (c73 (y.1,())).bind fun r0=>
  bif r0.1.1 then ((c23 (y.1,())).bind fun r1=>
   (c27 (r1.1.1,())).bind fun r2=>
   (c17 (y.1,())).bind fun r3=>
   (c26 (r2.1.1,(r3.1.1,()))).bind fun r4=>
   some (r4.1,()))
  else no
theorem s28 (c27:F27) (c23:F23) (c26:F26) (c17:F17) (c73:F73) (y):TE [g27 c27,g23 c23,g26 c26,g17 c17,g73 c73] Tryz.f28 i28 o28 y=m28 c27 c23 c26 c17 c73 y:=by kernel_rfl
noncomputable def r28:F28:=m28 r27 r23 r26 r17 r73
theorem k28:KO (g28 r28):=fk (s28 r27 r23 r26 r17 r73) ⟨k27,k23,k26,k17,k73,⟨⟩⟩ (by kernel_rfl)
abbrev i4:Ts:=[.v (.sl false .b)]
abbrev o4:Ts:=[.v (.bool)]
abbrev F4:=FT i4 o4
abbrev g4:=mkG 4 i4 o4
noncomputable def m4 (c27:F27) (c28:F28) (c23:F23) (c24:F24) (c25:F25) (c26:F26) (c20:F20) (c29:F29) (c14:F14) (c12:F12) (c13:F13) (c15:F15) (y:PTup i4):Option (PTup o4×BTup i4):=
  (c12 y).bind fun r0=>
  bif r0.1.1 then (some ((true,()),()))
  else (c13 y).bind fun r1=>
  (c14 r1.1).bind fun r2=>
  (c15 r1.1).bind fun r3=>
  bif (neI r2.1.2.1 r3.1.2.1)then no
  else (c23 (r2.1.1,())).bind fun r4=>
  (c24 ((r1.1.1.1,()),(r1.1.1.2.1,()))).bind fun r5=>
  (c25 (r5.1.1,(r2.1.1.2.2.2.2.2.2.2.2.2.2.2.2.2.2.2.2.2.2.2.1,()))).bind fun r6=>
  bif r5.1.2.1 then (bif (eqI r6.1.2.1 r2.1.1.2.2.2.2.2.2.2.2.2.2.2.2.2.2.2.2.2.2.2.1)then ((c27 (r4.1.1,())).bind fun r7=>
    (c26 (r7.1.1,(r6.1.1,()))).bind fun r8=>
    bif r8.1.1 then ((c28 (r2.1.1,())).bind fun r9=>
     bif r9.1.1 then ((c20 (r4.1.1,())).bind fun r10=>
      (c29 (r10.1.1,(r6.1.1.2.2.2.2.2.2.2.2.2.2.2.2.2.2.2.2.2.2.2.2.2.2.2.2.2.2.2.2.2.2.2,()))).bind fun r11=>
      some (r11.1,()))
     else no)
    else no)
   else no)
  else no
theorem s4 (c27:F27) (c28:F28) (c23:F23) (c24:F24) (c25:F25) (c26:F26) (c20:F20) (c29:F29) (c14:F14) (c12:F12) (c13:F13) (c15:F15) (y):TE [g27 c27,g28 c28,g23 c23,g24 c24,g25 c25,g26 c26,g20 c20,g29 c29,g14 c14,g12 c12,g13 c13,g15 c15] Tryz.f4 i4 o4 y=m4 c27 c28 c23 c24 c25 c26 c20 c29 c14 c12 c13 c15 y:=by kernel_rfl
noncomputable def r4:F4:=m4 r27 r28 r23 r24 r25 r26 r20 r29 r14 r12 r13 r15
theorem k4:KO (g4 r4):=fk (s4 r27 r28 r23 r24 r25 r26 r20 r29 r14 r12 r13 r15) ⟨k27,k28,k23,k24,k25,k26,k20,k29,k14,k12,k13,k15,⟨⟩⟩ (by kernel_rfl)
end Go.Proofs.YtgpifihakjdfeaaGreat.Plain
