/- Plain functions that the program's functions answer as; their contracts. Printed by a program of the proofs' writer. No condition. -/
import Derived.Test.YtgpifihakjdfeaaGreatW5
import Derived.KernelRfl
import Derived.Test.YtgpifihakjdfeaaGreatFn1
set_option linter.unusedVariables false
set_option linter.unusedSimpArgs false
set_option maxRecDepth 100000
namespace Go.Proofs.YtgpifihakjdfeaaGreat.Plain
open Go Go.Tev
abbrev i145:Ts:=[.p q13, .v (.int .i64)]
abbrev o145:Ts:=[]
abbrev F145:=FT i145 o145
abbrev g145:=mkG 145 i145 o145
abbrev lc145_0:Ts:=[.v (.int .i64)]
abbrev lb145_0:Ts:=[.p q13]
abbrev lv145_0:Ts:=[]
abbrev lr145_0:Ts:=[]
abbrev R145_0:=Option (Sum (PTup lv145_0) (PTup lr145_0)×BTup lb145_0)
abbrev B145_0:=PTup lb145_0→PTup lv145_0→R145_0
abbrev A145_0:=PTup lc145_0→B145_0
noncomputable def w145_0 (c134:F134) (again:B145_0) (x:PTup lc145_0) (y:PTup lb145_0) (z:PTup lv145_0):R145_0:=
  (c134 (y.1,x)).bind fun r0=>
  bif r0.1.1 then (again (r0.2.1,()) ())
  else some ((Sum.inl ()),(r0.2.1,()))
noncomputable def e145_0 (l:A145_0):LoopE:=⟨[1],lc145_0,[0],lb145_0,[],lv145_0,[],lr145_0,0,[],l⟩
noncomputable def m145 (c134:F134) (l0:A145_0) (y:PTup i145):Option (PTup o145×BTup i145):=
  (l0 y.2 (y.1,()) ()).bind fun r0=>
  sumElim r0.1 (fun r1=>some ((),(r0.2.1,())))
  (fun r1=>some ((),(r0.2.1,())))
noncomputable def E145 (c134:F134) (l0:A145_0):CEnv:=⟨⟨Tryz.prog,fnsL [g134 c134]⟩,loopsL [(0,e145_0 l0)]⟩
theorem t145_0 (c134:F134) (l0:A145_0) (again) (x y z):loopRound (E145 c134 l0) (loopAt (bodyOf Tryz.f145) 0) (e145_0 l0) Tryz.f145.ntmps again x y z=w145_0 c134 again x y z:=by kernel_rfl
noncomputable def n145_0 (c134:F134):Nat→A145_0
  |0,_,_,_=>none
  |n+1,x,y,z=>w145_0 c134 (fun y z=>n145_0 c134 n x y z) x y z
theorem s145 (c134:F134) (l0:A145_0) (y):tevF (E145 c134 l0) Tryz.f145 i145 o145 y=m145 c134 l0 y:=by kernel_rfl
noncomputable def L145_0:A145_0:=n145_0 r134 fuel
noncomputable def r145:F145:=m145 r134 L145_0
theorem k145:KO (g145 r145):=by
  have hE: ∀g f,(E145 r134 L145_0).env.fns g=some f→CallOk Tryz.prog g f:=fnsL_ok ⟨k134,⟨⟩⟩
  have h0:LoopOk Tryz.prog Tryz.f145.ntmps (loopAt (bodyOf Tryz.f145) 0) (e145_0 L145_0):=lp_ok (E:=E145 r134 L145_0) rfl hE mixed (AllLoops.of_list (l:=[]) (by kernel_rfl) trivial) (n145_0 r134) (fun _ _ _=>rfl) (fun n x y z=>t145_0 r134 L145_0 _ x y z) rfl
  exact fn_ok (E:=E145 r134 L145_0) rfl hE mixed (by kernel_rfl) (by kernel_rfl) (AllLoops.of_list (l:=[(loopAt (bodyOf Tryz.f145) 0)]) (by kernel_rfl) (.one (by kernel_rfl) h0 trivial)) (s145 r134 L145_0)
abbrev i146:Ts:=[.p q14, .v (.int .i64)]
abbrev o146:Ts:=[]
abbrev F146:=FT i146 o146
abbrev g146:=mkG 146 i146 o146
abbrev lc146_0:Ts:=[.v (.int .i64)]
abbrev lb146_0:Ts:=[.p q14]
abbrev lv146_0:Ts:=[]
abbrev lr146_0:Ts:=[]
abbrev R146_0:=Option (Sum (PTup lv146_0) (PTup lr146_0)×BTup lb146_0)
abbrev B146_0:=PTup lb146_0→PTup lv146_0→R146_0
abbrev A146_0:=PTup lc146_0→B146_0
noncomputable def w146_0 (c135:F135) (again:B146_0) (x:PTup lc146_0) (y:PTup lb146_0) (z:PTup lv146_0):R146_0:=
  (c135 (y.1,x)).bind fun r0=>
  bif r0.1.1 then (again (r0.2.1,()) ())
  else some ((Sum.inl ()),(r0.2.1,()))
noncomputable def e146_0 (l:A146_0):LoopE:=⟨[1],lc146_0,[0],lb146_0,[],lv146_0,[],lr146_0,0,[],l⟩
noncomputable def m146 (c135:F135) (l0:A146_0) (y:PTup i146):Option (PTup o146×BTup i146):=
  (l0 y.2 (y.1,()) ()).bind fun r0=>
  sumElim r0.1 (fun r1=>some ((),(r0.2.1,())))
  (fun r1=>some ((),(r0.2.1,())))
noncomputable def E146 (c135:F135) (l0:A146_0):CEnv:=⟨⟨Tryz.prog,fnsL [g135 c135]⟩,loopsL [(0,e146_0 l0)]⟩
theorem t146_0 (c135:F135) (l0:A146_0) (again) (x y z):loopRound (E146 c135 l0) (loopAt (bodyOf Tryz.f146) 0) (e146_0 l0) Tryz.f146.ntmps again x y z=w146_0 c135 again x y z:=by kernel_rfl
noncomputable def n146_0 (c135:F135):Nat→A146_0
  |0,_,_,_=>none
  |n+1,x,y,z=>w146_0 c135 (fun y z=>n146_0 c135 n x y z) x y z
theorem s146 (c135:F135) (l0:A146_0) (y):tevF (E146 c135 l0) Tryz.f146 i146 o146 y=m146 c135 l0 y:=by kernel_rfl
noncomputable def L146_0:A146_0:=n146_0 r135 fuel
noncomputable def r146:F146:=m146 r135 L146_0
theorem k146:KO (g146 r146):=by
  have hE: ∀g f,(E146 r135 L146_0).env.fns g=some f→CallOk Tryz.prog g f:=fnsL_ok ⟨k135,⟨⟩⟩
  have h0:LoopOk Tryz.prog Tryz.f146.ntmps (loopAt (bodyOf Tryz.f146) 0) (e146_0 L146_0):=lp_ok (E:=E146 r135 L146_0) rfl hE mixed (AllLoops.of_list (l:=[]) (by kernel_rfl) trivial) (n146_0 r135) (fun _ _ _=>rfl) (fun n x y z=>t146_0 r135 L146_0 _ x y z) rfl
  exact fn_ok (E:=E146 r135 L146_0) rfl hE mixed (by kernel_rfl) (by kernel_rfl) (AllLoops.of_list (l:=[(loopAt (bodyOf Tryz.f146) 0)]) (by kernel_rfl) (.one (by kernel_rfl) h0 trivial)) (s146 r135 L146_0)
abbrev i78:Ts:=[.p [.sl false .n, .sl false .i, .sl false .i, .int .i64, .int .i64, .int .i64, .int .i64, .int .i64, .bool, .bool, .bool, .bool, .bool, .int .i64, .int .i64, .bool, .int .i64, .bool, .int .i64, .int .i64, .sl false .i, .int .i64, .int .i64, .int .i64, .int .i64, .int .i64, .bool, .sl true .i, .sl true .i, .int .i64, .sl true .t, .sl true .n, .int .i64, .int .i64, .int .i64, .int .i64, .int .i64, .bool, .bool, .int .i64, .sl true .t, .sl true .i]]
abbrev o78:Ts:=[]
abbrev F78:=FT i78 o78
abbrev g78:=mkG 78 i78 o78
noncomputable def m78 (c145:F145) (c146:F146) (y:PTup i78):Option (PTup o78×BTup i78):=
  let a0:=y.1;let a1:=a0.2;let a2:=a1.2;let a3:=a2.2;let a4:=a3.2;let a5:=a4.2;let a6:=a5.2;let a7:=a6.2;let a8:=a7.2;let a9:=a8.2;let a10:=a9.2;let a11:=a10.2;let a12:=a11.2;let a13:=a12.2;let a14:=a13.2;let a15:=a14.2;let a16:=a15.2;let a17:=a16.2;let a18:=a17.2;let a19:=a18.2;let a20:=a19.2;let a21:=a20.2;let a22:=a21.2;let a23:=a22.2;let a24:=a23.2.2;let a25:=a24.2.2;(c145 ((a21.1,(a22.1,(a23.1,(a23.2.1,(a24.1,(a24.2.1,(a25.1,(a25.2.1,(a25.2.2.1,(a25.2.2.2.1,(a25.2.2.2.2.1,()))))))))))),(a14.1,()))).bind fun r0=>
  (c146 (a25.2.2.2.2.2,(a14.1,()))).bind fun r1=>
  some ((),((a0.1,(a1.1,(a2.1,(a3.1,(a4.1,(a5.1,(a6.1,(a7.1,(a8.1,(a9.1,(a10.1,(a11.1,(a12.1,(a13.1,(a14.1,(a15.1,(a16.1,(a17.1,(a18.1,(a19.1,(a20.1,(r0.2.1.1,(r0.2.1.2.1,(r0.2.1.2.2.1,(r0.2.1.2.2.2.1,(r0.2.1.2.2.2.2.1,(r0.2.1.2.2.2.2.2.1,(r0.2.1.2.2.2.2.2.2.1,(r0.2.1.2.2.2.2.2.2.2.1,(r0.2.1.2.2.2.2.2.2.2.2.1,(r0.2.1.2.2.2.2.2.2.2.2.2.1,(r0.2.1.2.2.2.2.2.2.2.2.2.2.1,r1.2.1)))))))))))))))))))))))))))))))),()))
theorem s78 (c145:F145) (c146:F146) (y):TE [g145 c145,g146 c146] Tryz.f78 i78 o78 y=m78 c145 c146 y:=by kernel_rfl
noncomputable def r78:F78:=m78 r145 r146
theorem k78:KO (g78 r78):=fk (s78 r145 r146) ⟨k145,k146,⟨⟩⟩ (by kernel_rfl)
abbrev i23:Ts:=[.a q11]
abbrev o23:Ts:=[.a q12]
abbrev F23:=FT i23 o23
abbrev g23:=mkG 23 i23 o23
noncomputable def m23 (c78:F78) (c16:F16) (c58:F58) (y:PTup i23):Option (PTup o23×BTup i23):=
  (c58 (y.1,())).bind fun r0=>
  (c16 (y.1,())).bind fun r1=>
  bif r1.1.1 then ((c78 (r0.1.1,())).bind fun r2=>let f0:=r2.2;let f1:=f0.1;let f2:=f1.2;let f3:=f2.2;let f4:=f3.2;let f5:=f4.2;let f6:=f5.2;let f7:=f6.2;let f8:=f7.2;let f9:=f8.2;let f10:=f9.2.2;let f11:=f10.2;let f12:=f11.2.2;let f13:=f12.2.2;some (((r0.1.1.1,(r0.1.1.2.1,(r0.1.1.2.2.1,(f4.1,(f5.1,(f6.1,(f7.1,(f8.1,(f9.1,(f9.2.1,(f10.1,(f11.1,(f11.2.1,(f12.1,(f12.2.1,(f13.1,(f13.2.1,(f13.2.2.1,(f13.2.2.2.1,(f13.2.2.2.2.1,(r0.1.1.2.2.2.2.2.2.2.2.2.2.2.2.2.2.2.2.2.2.2.2.1,f13.2.2.2.2.2.2))))))))))))))))))))),()),()))
  else some ((r0.1.1,()),())
theorem s23 (c78:F78) (c16:F16) (c58:F58) (y):TE [g78 c78,g16 c16,g58 c58] Tryz.f23 i23 o23 y=m23 c78 c16 c58 y:=by kernel_rfl
noncomputable def r23:F23:=m23 r78 r16 r58
theorem k23:KO (g23 r23):=fk (s23 r78 r16 r58) ⟨k78,k16,k58,⟨⟩⟩ (by kernel_rfl)
abbrev i50:Ts:=[.a q11, .v (.int .i64)]
abbrev o50:Ts:=[.a q12, .v (.bool)]
abbrev F50:=FT i50 o50
abbrev g50:=mkG 50 i50 o50
noncomputable def m50 (c59:F59) (c16:F16) (c58:F58) (y:PTup i50):Option (PTup o50×BTup i50):=
  (c16 (y.1,())).bind fun r0=>
  bif (!r0.1.1)then (some ((([],([],([],((0:Int),((0:Int),((0:Int),((0:Int),((0:Int),(false,(false,(false,(false,(false,((0:Int),((0:Int),(false,((0:Int),(false,((0:Int),((0:Int),([],((0:Int),((0:Int),((0:Int),((0:Int),((0:Int),(false,([],([],((0:Int),([],([],((0:Int),((0:Int),((0:Int),((0:Int),((0:Int),(false,(false,((0:Int),([],([],())))))))))))))))))))))))))))))))))))))))))),(false,())),()))
  else (c58 (y.1,())).bind fun r1=>
  (c59 (r1.1.1,y.2)).bind fun r2=>
  some (((r1.1.1.1,(r1.1.1.2.1,r2.2.1.2.2)),r2.1),())
theorem s50 (c59:F59) (c16:F16) (c58:F58) (y):TE [g59 c59,g16 c16,g58 c58] Tryz.f50 i50 o50 y=m50 c59 c16 c58 y:=by kernel_rfl
noncomputable def r50:F50:=m50 r59 r16 r58
theorem k50:KO (g50 r50):=fk (s50 r59 r16 r58) ⟨k59,k16,k58,⟨⟩⟩ (by kernel_rfl)
abbrev i52:Ts:=[.a q11]
abbrev o52:Ts:=[.v (.sl true .i)]
abbrev F52:=FT i52 o52
abbrev g52:=mkG 52 i52 o52
abbrev lc52_0:Ts:=[]
abbrev lb52_0:Ts:=[.p q11]
abbrev lv52_0:Ts:=[.v (.sl true .i), .v (.int .i64)]
abbrev lr52_0:Ts:=[]
abbrev R52_0:=Option (Sum (PTup lv52_0) (PTup lr52_0)×BTup lb52_0)
abbrev B52_0:=PTup lb52_0→PTup lv52_0→R52_0
abbrev A52_0:=PTup lc52_0→B52_0
noncomputable def w52_0 (c50:F50) (again:B52_0) (x:PTup lc52_0) (y:PTup lb52_0) (z:PTup lv52_0):R52_0:=
  bif (leI z.2.1 2)then ((c50 (y.1,z.2)).bind fun r0=>
   bif r0.1.2.1 then (bif (leN ((List.length z.1)+(List.length (z.2.1::[]))) (E.most .i))then (again (y.1,()) ((z.1++(z.2.1::[])),((wI (z.2.1+1)),())))
    else none)
   else again (y.1,()) (z.1,((wI (z.2.1+1)),())))
  else some ((Sum.inl z),(y.1,()))
noncomputable def e52_0 (l:A52_0):LoopE:=⟨[],lc52_0,[1],lb52_0,[3,4],lv52_0,[],lr52_0,0,[],l⟩
noncomputable def m52 (c50:F50) (l0:A52_0) (y:PTup i52):Option (PTup o52×BTup i52):=
  (l0 () (y.1,()) ([],((0:Int),()))).bind fun r0=>
  sumElim r0.1 (fun r1=>some ((r1.1,()),()))
  (fun r1=>some (([],()),()))
noncomputable def E52 (c50:F50) (l0:A52_0):CEnv:=⟨⟨Tryz.prog,fnsL [g50 c50]⟩,loopsL [(3,e52_0 l0)]⟩
theorem t52_0 (c50:F50) (l0:A52_0) (again) (x y z):loopRound (E52 c50 l0) (loopAt (bodyOf Tryz.f52) 0) (e52_0 l0) Tryz.f52.ntmps again x y z=w52_0 c50 again x y z:=by kernel_rfl
noncomputable def n52_0 (c50:F50):Nat→A52_0
  |0,_,_,_=>none
  |n+1,x,y,z=>w52_0 c50 (fun y z=>n52_0 c50 n x y z) x y z
theorem s52 (c50:F50) (l0:A52_0) (y):tevF (E52 c50 l0) Tryz.f52 i52 o52 y=m52 c50 l0 y:=by kernel_rfl
noncomputable def L52_0:A52_0:=n52_0 r50 fuel
noncomputable def r52:F52:=m52 r50 L52_0
theorem k52:KO (g52 r52):=by
  have hE: ∀g f,(E52 r50 L52_0).env.fns g=some f→CallOk Tryz.prog g f:=fnsL_ok ⟨k50,⟨⟩⟩
  have h0:LoopOk Tryz.prog Tryz.f52.ntmps (loopAt (bodyOf Tryz.f52) 0) (e52_0 L52_0):=lp_ok (E:=E52 r50 L52_0) rfl hE mixed (AllLoops.of_list (l:=[]) (by kernel_rfl) trivial) (n52_0 r50) (fun _ _ _=>rfl) (fun n x y z=>t52_0 r50 L52_0 _ x y z) rfl
  exact fn_ok (E:=E52 r50 L52_0) rfl hE mixed (by kernel_rfl) (by kernel_rfl) (AllLoops.of_list (l:=[(loopAt (bodyOf Tryz.f52) 0)]) (by kernel_rfl) (.one (by kernel_rfl) h0 trivial)) (s52 r50 L52_0)
abbrev i128:Ts:=[.a q11]
abbrev o128:Ts:=[.v (.int .i64)]
abbrev F128:=FT i128 o128
abbrev g128:=mkG 128 i128 o128
noncomputable def m128 (c165:F165) (c16:F16) (y:PTup i128):Option (PTup o128×BTup i128):=
  (c16 (y.1,())).bind fun r0=>
  bif (!r0.1.1)then (some (((6:Int),()),()))
  else (c165 (y.1,())).bind fun r1=>
  some (r1.1,())
theorem s128 (c165:F165) (c16:F16) (y):TE [g165 c165,g16 c16] Tryz.f128 i128 o128 y=m128 c165 c16 y:=by kernel_rfl
noncomputable def r128:F128:=m128 r165 r16
theorem k128:KO (g128 r128):=fk (s128 r165 r16) ⟨k165,k16,⟨⟩⟩ (by kernel_rfl)
abbrev i53:Ts:=[.a q11]
abbrev o53:Ts:=[.v (.bool)]
abbrev F53:=FT i53 o53
abbrev g53:=mkG 53 i53 o53
noncomputable def m53 (c52:F52) (c23:F23) (c16:F16) (c128:F128) (y:PTup i53):Option (PTup o53×BTup i53):=
  (c16 (y.1,())).bind fun r0=>
  bif r0.1.1 then ((c52 (y.1,())).bind fun r1=>
   bif (ltI 0 (lenI r1.1.1))then (some ((true,()),()))
   else (c23 (y.1,())).bind fun r2=>
   (c128 (r2.1.1,())).bind fun r3=>
   some (((eqI r3.1.1 5),()),()))
  else no
theorem s53 (c52:F52) (c23:F23) (c16:F16) (c128:F128) (y):TE [g52 c52,g23 c23,g16 c16,g128 c128] Tryz.f53 i53 o53 y=m53 c52 c23 c16 c128 y:=by kernel_rfl
noncomputable def r53:F53:=m53 r52 r23 r16 r128
theorem k53:KO (g53 r53):=fk (s53 r52 r23 r16 r128) ⟨k52,k23,k16,k128,⟨⟩⟩ (by kernel_rfl)
abbrev i11:Ts:=[.v (.sl false .b)]
abbrev o11:Ts:=[.v (.bool)]
abbrev F11:=FT i11 o11
abbrev g11:=mkG 11 i11 o11
abbrev lc11_0:Ts:=[.v (.sl false .i)]
abbrev lb11_0:Ts:=[.p q12]
abbrev lv11_0:Ts:=[.v (.int .i64)]
abbrev lr11_0:Ts:=[.v (.bool)]
abbrev R11_0:=Option (Sum (PTup lv11_0) (PTup lr11_0)×BTup lb11_0)
abbrev B11_0:=PTup lb11_0→PTup lv11_0→R11_0
abbrev A11_0:=PTup lc11_0→B11_0
noncomputable def w11_0 (c52:F52) (c53:F53) (c50:F50) (c16:F16) (c12:F12) (c13:F13) (c51:F51) (again:B11_0) (x:PTup lc11_0) (y:PTup lb11_0) (z:PTup lv11_0):R11_0:=
  bif (ltI z.1 (lenI x.1))then (bif (leI 0 z.1)then (bif (ltI z.1 (lenI x.1))then ((c50 (y.1,((rdE .i x.1 z.1),()))).bind fun r0=>
     bif (leI 0 z.1)then (bif (ltI z.1 (lenI x.1))then ((c51 (y.1,((rdE .i x.1 z.1),()))).bind fun r1=>
       bif (!(r0.1.2.1==r1.1.2.1))then (some ((Sum.inr (false,())),(y.1,())))
       else bif (neI (Int.tmod z.1 7) (0:Int))then (again (r0.1.1,()) ((wI (z.1+1)),()))
       else (c52 (r0.1.1,())).bind fun r2=>
       bif (eqI (lenI r2.1.1) 0)then (some ((Sum.inr (false,())),(r0.1.1,())))
       else (c53 (r0.1.1,())).bind fun r3=>
       bif (!r3.1.1)then (some ((Sum.inr (false,())),(r0.1.1,())))
       else again (r0.1.1,()) ((wI (z.1+1)),()))
      else none)
     else none)
    else none)
   else none)
  else some ((Sum.inl z),(y.1,()))
noncomputable def e11_0 (l:A11_0):LoopE:=⟨[4],lc11_0,[3],lb11_0,[5],lv11_0,[2],lr11_0,0,[],l⟩
noncomputable def m11 (c52:F52) (c53:F53) (c50:F50) (c16:F16) (c12:F12) (c13:F13) (c51:F51) (l0:A11_0) (y:PTup i11):Option (PTup o11×BTup i11):=
  (c12 y).bind fun r0=>
  bif r0.1.1 then (some ((true,()),()))
  else (c13 y).bind fun r1=>
  (l0 r1.1.2 (r1.1.1,()) ((0:Int),())).bind fun r2=>
  sumElim r2.1 (fun r3=>(c16 (r2.2.1,())).bind fun r4=>
   some (r4.1,()))
  (fun r3=>some (r3,()))
noncomputable def E11 (c52:F52) (c53:F53) (c50:F50) (c16:F16) (c12:F12) (c13:F13) (c51:F51) (l0:A11_0):CEnv:=⟨⟨Tryz.prog,fnsL [g52 c52,g53 c53,g50 c50,g16 c16,g12 c12,g13 c13,g51 c51]⟩,loopsL [(5,e11_0 l0)]⟩
theorem t11_0 (c52:F52) (c53:F53) (c50:F50) (c16:F16) (c12:F12) (c13:F13) (c51:F51) (l0:A11_0) (again) (x y z):loopRound (E11 c52 c53 c50 c16 c12 c13 c51 l0) (loopAt (bodyOf Tryz.f11) 0) (e11_0 l0) Tryz.f11.ntmps again x y z=w11_0 c52 c53 c50 c16 c12 c13 c51 again x y z:=by kernel_rfl
noncomputable def n11_0 (c52:F52) (c53:F53) (c50:F50) (c16:F16) (c12:F12) (c13:F13) (c51:F51):Nat→A11_0
  |0,_,_,_=>none
  |n+1,x,y,z=>w11_0 c52 c53 c50 c16 c12 c13 c51 (fun y z=>n11_0 c52 c53 c50 c16 c12 c13 c51 n x y z) x y z
theorem s11 (c52:F52) (c53:F53) (c50:F50) (c16:F16) (c12:F12) (c13:F13) (c51:F51) (l0:A11_0) (y):tevF (E11 c52 c53 c50 c16 c12 c13 c51 l0) Tryz.f11 i11 o11 y=m11 c52 c53 c50 c16 c12 c13 c51 l0 y:=by kernel_rfl
noncomputable def L11_0:A11_0:=n11_0 r52 r53 r50 r16 r12 r13 r51 fuel
noncomputable def r11:F11:=m11 r52 r53 r50 r16 r12 r13 r51 L11_0
theorem k11:KO (g11 r11):=by
  have hE: ∀g f,(E11 r52 r53 r50 r16 r12 r13 r51 L11_0).env.fns g=some f→CallOk Tryz.prog g f:=fnsL_ok ⟨k52,k53,k50,k16,k12,k13,k51,⟨⟩⟩
  have h0:LoopOk Tryz.prog Tryz.f11.ntmps (loopAt (bodyOf Tryz.f11) 0) (e11_0 L11_0):=lp_ok (E:=E11 r52 r53 r50 r16 r12 r13 r51 L11_0) rfl hE mixed (AllLoops.of_list (l:=[]) (by kernel_rfl) trivial) (n11_0 r52 r53 r50 r16 r12 r13 r51) (fun _ _ _=>rfl) (fun n x y z=>t11_0 r52 r53 r50 r16 r12 r13 r51 L11_0 _ x y z) rfl
  exact fn_ok (E:=E11 r52 r53 r50 r16 r12 r13 r51 L11_0) rfl hE mixed (by kernel_rfl) (by kernel_rfl) (AllLoops.of_list (l:=[(loopAt (bodyOf Tryz.f11) 0)]) (by kernel_rfl) (.one (by kernel_rfl) h0 trivial)) (s11 r52 r53 r50 r16 r12 r13 r51 L11_0)
end Go.Proofs.YtgpifihakjdfeaaGreat.Plain
