/- Plain functions that the program's functions answer as; their contracts. Printed by a program of the proofs' writer. No condition. -/
import Derived.Test.YtgpifihakjdfeaaGreatW5
import Derived.KernelRfl
import Derived.Test.YtgpifihakjdfeaaGreatFn1
set_option linter.unusedVariables false
set_option linter.unusedSimpArgs false
set_option maxRecDepth 100000
namespace Go.Proofs.YtgpifihakjdfeaaGreat.Plain
open Go Go.Tev
abbrev i14:Ts:=[.a q11, .v (.sl false .i)]
abbrev o14:Ts:=[.a q12, .v (.int .i64)]
abbrev F14:=FT i14 o14
abbrev g14:=mkG 14 i14 o14
abbrev lc14_0:Ts:=[.v (.sl false .i), .v (.int .i64)]
abbrev lb14_0:Ts:=[.p [.sl false .n, .sl false .i, .sl true .i, .int .i64, .int .i64, .int .i64, .int .i64, .int .i64, .bool, .bool, .bool, .bool, .bool, .int .i64, .int .i64, .bool, .int .i64, .bool, .int .i64, .int .i64, .sl true .i, .int .i64, .int .i64, .int .i64, .int .i64, .int .i64, .bool, .sl true .i, .sl true .i, .int .i64, .sl true .t, .sl true .n, .int .i64, .int .i64, .int .i64, .int .i64, .int .i64, .bool, .bool, .int .i64, .sl true .t, .sl true .i]]
abbrev lv14_0:Ts:=[.v (.int .i64), .v (.int .i64)]
abbrev lr14_0:Ts:=[]
abbrev R14_0:=Option (Sum (PTup lv14_0) (PTup lr14_0)×BTup lb14_0)
abbrev B14_0:=PTup lb14_0→PTup lv14_0→R14_0
abbrev A14_0:=PTup lc14_0→B14_0
noncomputable def w14_0 (c59:F59) (c16:F16) (c58:F58) (c60:F60) (again:B14_0) (x:PTup lc14_0) (y:PTup lb14_0) (z:PTup lv14_0):R14_0:=
  bif (ltI z.2.1 x.2.1)then (bif (leI 0 z.2.1)then (bif (ltI z.2.1 (lenI x.1))then ((c59 (y.1,((rdE .i x.1 z.2.1),()))).bind fun r0=>
     (c60 r0.1).bind fun r1=>
     again ((y.1.1,(y.1.2.1,r0.2.1.2.2)),()) ((wI (z.1+r1.1.1)),((wI (z.2.1+1)),())))
    else none)
   else none)
  else some ((Sum.inl z),(y.1,()))
noncomputable def e14_0 (l:A14_0):LoopE:=⟨[21,22],lc14_0,[6],lb14_0,[7,23],lv14_0,[],lr14_0,0,[],l⟩
noncomputable def m14 (c59:F59) (c16:F16) (c58:F58) (c60:F60) (l0:A14_0) (y:PTup i14):Option (PTup o14×BTup i14):=
  (c16 (y.1,())).bind fun r0=>
  bif (!r0.1.1)then (some ((([],([],([],((0:Int),((0:Int),((0:Int),((0:Int),((0:Int),(false,(false,(false,(false,(false,((0:Int),((0:Int),(false,((0:Int),(false,((0:Int),((0:Int),([],((0:Int),((0:Int),((0:Int),((0:Int),((0:Int),(false,([],([],((0:Int),([],([],((0:Int),((0:Int),((0:Int),((0:Int),((0:Int),(false,(false,((0:Int),([],([],())))))))))))))))))))))))))))))))))))))))))),((-(1:Int)),())),()))
  else (c58 (y.1,())).bind fun r1=>
  bif (ltI 3000 (lenI y.2.1))then (some ((r1.1.1,((-(1:Int)),())),()))
  else (l0 (y.2.1,((lenI y.2.1),())) (r1.1.1,()) ((0:Int),((0:Int),()))).bind fun r2=>
  sumElim r2.1 (fun r3=>some (((r1.1.1.1,(r1.1.1.2.1,r2.2.1.2.2)),(r3.1,())),()))
  (fun r3=>some ((([],([],([],((0:Int),((0:Int),((0:Int),((0:Int),((0:Int),(false,(false,(false,(false,(false,((0:Int),((0:Int),(false,((0:Int),(false,((0:Int),((0:Int),([],((0:Int),((0:Int),((0:Int),((0:Int),((0:Int),(false,([],([],((0:Int),([],([],((0:Int),((0:Int),((0:Int),((0:Int),((0:Int),(false,(false,((0:Int),([],([],())))))))))))))))))))))))))))))))))))))))))),((0:Int),())),()))
noncomputable def E14 (c59:F59) (c16:F16) (c58:F58) (c60:F60) (l0:A14_0):CEnv:=⟨⟨Tryz.prog,fnsL [g59 c59,g16 c16,g58 c58,g60 c60]⟩,loopsL [(8,e14_0 l0)]⟩
theorem t14_0 (c59:F59) (c16:F16) (c58:F58) (c60:F60) (l0:A14_0) (again) (x y z):loopRound (E14 c59 c16 c58 c60 l0) (loopAt (bodyOf Tryz.f14) 0) (e14_0 l0) Tryz.f14.ntmps again x y z=w14_0 c59 c16 c58 c60 again x y z:=by kernel_rfl
noncomputable def n14_0 (c59:F59) (c16:F16) (c58:F58) (c60:F60):Nat→A14_0
  |0,_,_,_=>none
  |n+1,x,y,z=>w14_0 c59 c16 c58 c60 (fun y z=>n14_0 c59 c16 c58 c60 n x y z) x y z
theorem s14 (c59:F59) (c16:F16) (c58:F58) (c60:F60) (l0:A14_0) (y):tevF (E14 c59 c16 c58 c60 l0) Tryz.f14 i14 o14 y=m14 c59 c16 c58 c60 l0 y:=by kernel_rfl
noncomputable def L14_0:A14_0:=n14_0 r59 r16 r58 r60 fuel
noncomputable def r14:F14:=m14 r59 r16 r58 r60 L14_0
theorem k14:KO (g14 r14):=by
  have hE: ∀g f,(E14 r59 r16 r58 r60 L14_0).env.fns g=some f→CallOk Tryz.prog g f:=fnsL_ok ⟨k59,k16,k58,k60,⟨⟩⟩
  have h0:LoopOk Tryz.prog Tryz.f14.ntmps (loopAt (bodyOf Tryz.f14) 0) (e14_0 L14_0):=lp_ok (E:=E14 r59 r16 r58 r60 L14_0) rfl hE mixed (AllLoops.of_list (l:=[]) (by kernel_rfl) trivial) (n14_0 r59 r16 r58 r60) (fun _ _ _=>rfl) (fun n x y z=>t14_0 r59 r16 r58 r60 L14_0 _ x y z) rfl
  exact fn_ok (E:=E14 r59 r16 r58 r60 L14_0) rfl hE mixed (by kernel_rfl) (by kernel_rfl) (AllLoops.of_list (l:=[(loopAt (bodyOf Tryz.f14) 0)]) (by kernel_rfl) (.one (by kernel_rfl) h0 trivial)) (s14 r59 r16 r58 r60 L14_0)
abbrev i15:Ts:=[.a q11, .v (.sl false .i)]
abbrev o15:Ts:=[.a q12, .v (.int .i64)]
abbrev F15:=FT i15 o15
abbrev g15:=mkG 15 i15 o15
abbrev lc15_0:Ts:=[.v (.sl false .i)]
abbrev lb15_0:Ts:=[.p q12]
abbrev lv15_0:Ts:=[.v (.int .i64), .v (.int .i64)]
abbrev lr15_0:Ts:=[]
abbrev R15_0:=Option (Sum (PTup lv15_0) (PTup lr15_0)×BTup lb15_0)
abbrev B15_0:=PTup lb15_0→PTup lv15_0→R15_0
abbrev A15_0:=PTup lc15_0→B15_0
noncomputable def w15_0 (c51:F51) (c61:F61) (c62:F62) (c63:F63) (again:B15_0) (x:PTup lc15_0) (y:PTup lb15_0) (z:PTup lv15_0):R15_0:=
  bif (ltI z.2.1 (lenI x.1))then (bif (leI 0 z.2.1)then (bif (ltI z.2.1 (lenI x.1))then ((c51 (y.1,((rdE .i x.1 z.2.1),()))).bind fun r0=>
     (c63 r0.1.2).bind fun r1=>
     again (r0.1.1,()) ((wI (z.1+r1.1.1)),((wI (z.2.1+1)),())))
    else none)
   else none)
  else some ((Sum.inl z),(y.1,()))
noncomputable def e15_0 (l:A15_0):LoopE:=⟨[1],lc15_0,[6],lb15_0,[7,8],lv15_0,[],lr15_0,0,[],l⟩
noncomputable def m15 (c51:F51) (c61:F61) (c62:F62) (c63:F63) (l0:A15_0) (y:PTup i15):Option (PTup o15×BTup i15):=
  (c61 (y.1,())).bind fun r0=>
  bif (!r0.1.1)then (some ((([],([],([],((0:Int),((0:Int),((0:Int),((0:Int),((0:Int),(false,(false,(false,(false,(false,((0:Int),((0:Int),(false,((0:Int),(false,((0:Int),((0:Int),([],((0:Int),((0:Int),((0:Int),((0:Int),((0:Int),(false,([],([],((0:Int),([],([],((0:Int),((0:Int),((0:Int),((0:Int),((0:Int),(false,(false,((0:Int),([],([],())))))))))))))))))))))))))))))))))))))))))),((-(1:Int)),())),()))
  else (c62 (y.1,())).bind fun r1=>
  bif (ltI 3000 (lenI y.2.1))then (some ((r1.1.1,((-(1:Int)),())),()))
  else (l0 y.2 (r1.1.1,()) ((0:Int),((0:Int),()))).bind fun r2=>
  sumElim r2.1 (fun r3=>some ((r2.2.1,(r3.1,())),()))
  (fun r3=>some ((([],([],([],((0:Int),((0:Int),((0:Int),((0:Int),((0:Int),(false,(false,(false,(false,(false,((0:Int),((0:Int),(false,((0:Int),(false,((0:Int),((0:Int),([],((0:Int),((0:Int),((0:Int),((0:Int),((0:Int),(false,([],([],((0:Int),([],([],((0:Int),((0:Int),((0:Int),((0:Int),((0:Int),(false,(false,((0:Int),([],([],())))))))))))))))))))))))))))))))))))))))))),((0:Int),())),()))
noncomputable def E15 (c51:F51) (c61:F61) (c62:F62) (c63:F63) (l0:A15_0):CEnv:=⟨⟨Tryz.prog,fnsL [g51 c51,g61 c61,g62 c62,g63 c63]⟩,loopsL [(8,e15_0 l0)]⟩
theorem t15_0 (c51:F51) (c61:F61) (c62:F62) (c63:F63) (l0:A15_0) (again) (x y z):loopRound (E15 c51 c61 c62 c63 l0) (loopAt (bodyOf Tryz.f15) 0) (e15_0 l0) Tryz.f15.ntmps again x y z=w15_0 c51 c61 c62 c63 again x y z:=by kernel_rfl
noncomputable def n15_0 (c51:F51) (c61:F61) (c62:F62) (c63:F63):Nat→A15_0
  |0,_,_,_=>none
  |n+1,x,y,z=>w15_0 c51 c61 c62 c63 (fun y z=>n15_0 c51 c61 c62 c63 n x y z) x y z
theorem s15 (c51:F51) (c61:F61) (c62:F62) (c63:F63) (l0:A15_0) (y):tevF (E15 c51 c61 c62 c63 l0) Tryz.f15 i15 o15 y=m15 c51 c61 c62 c63 l0 y:=by kernel_rfl
noncomputable def L15_0:A15_0:=n15_0 r51 r61 r62 r63 fuel
noncomputable def r15:F15:=m15 r51 r61 r62 r63 L15_0
theorem k15:KO (g15 r15):=by
  have hE: ∀g f,(E15 r51 r61 r62 r63 L15_0).env.fns g=some f→CallOk Tryz.prog g f:=fnsL_ok ⟨k51,k61,k62,k63,⟨⟩⟩
  have h0:LoopOk Tryz.prog Tryz.f15.ntmps (loopAt (bodyOf Tryz.f15) 0) (e15_0 L15_0):=lp_ok (E:=E15 r51 r61 r62 r63 L15_0) rfl hE mixed (AllLoops.of_list (l:=[]) (by kernel_rfl) trivial) (n15_0 r51 r61 r62 r63) (fun _ _ _=>rfl) (fun n x y z=>t15_0 r51 r61 r62 r63 L15_0 _ x y z) rfl
  exact fn_ok (E:=E15 r51 r61 r62 r63 L15_0) rfl hE mixed (by kernel_rfl) (by kernel_rfl) (AllLoops.of_list (l:=[(loopAt (bodyOf Tryz.f15) 0)]) (by kernel_rfl) (.one (by kernel_rfl) h0 trivial)) (s15 r51 r61 r62 r63 L15_0)
abbrev i10:Ts:=[.v (.sl false .b)]
abbrev o10:Ts:=[.v (.bool)]
abbrev F10:=FT i10 o10
abbrev g10:=mkG 10 i10 o10
abbrev lc10_0:Ts:=[]
abbrev lb10_0:Ts:=[.p q11]
abbrev lv10_0:Ts:=[.v (.int .i64)]
abbrev lr10_0:Ts:=[.v (.bool)]
abbrev R10_0:=Option (Sum (PTup lv10_0) (PTup lr10_0)×BTup lb10_0)
abbrev B10_0:=PTup lb10_0→PTup lv10_0→R10_0
abbrev A10_0:=PTup lc10_0→B10_0
noncomputable def w10_0 (c14:F14) (c12:F12) (c13:F13) (c15:F15) (again:B10_0) (x:PTup lc10_0) (y:PTup lb10_0) (z:PTup lv10_0):R10_0:=
  bif (ltI z.1 (lenI y.1.2.2.2.2.2.2.2.2.2.2.2.2.2.2.2.2.2.2.2.2.2.2.2.2.2.2.2.2.2.2.2.2.2.2.2.2.2.2.2.2.1))then (bif (leI 0 z.1)then (bif (ltI z.1 (lenI y.1.2.2.2.2.2.2.2.2.2.2.2.2.2.2.2.2.2.2.2.2.2.2.2.2.2.2.2.2.2.2.2.2.2.2.2.2.2.2.2.2.1))then (bif (ltI (rdE .t y.1.2.2.2.2.2.2.2.2.2.2.2.2.2.2.2.2.2.2.2.2.2.2.2.2.2.2.2.2.2.2.2.2.2.2.2.2.2.2.2.2.1 z.1).1 y.1.2.2.2.2.2.2.2.2.2.2.2.2.2.2.2.2.2.2.2.2.2.2.2.2.2.2.2.2.2.2.2.2.1)then (some ((Sum.inr (false,())),(y.1,())))
     else bif (leI 0 z.1)then (bif (ltI z.1 (lenI y.1.2.2.2.2.2.2.2.2.2.2.2.2.2.2.2.2.2.2.2.2.2.2.2.2.2.2.2.2.2.2.2.2.2.2.2.2.2.2.2.2.1))then (bif (ltI y.1.2.2.2.2.2.2.2.2.2.2.2.2.2.2.1 (rdE .t y.1.2.2.2.2.2.2.2.2.2.2.2.2.2.2.2.2.2.2.2.2.2.2.2.2.2.2.2.2.2.2.2.2.2.2.2.2.2.2.2.2.1 z.1).1)then (some ((Sum.inr (false,())),(y.1,())))
       else again (y.1,()) ((wI (z.1+1)),()))
      else none)
     else none)
    else none)
   else none)
  else some ((Sum.inl z),(y.1,()))
noncomputable def e10_0 (l:A10_0):LoopE:=⟨[],lc10_0,[5],lb10_0,[10],lv10_0,[2],lr10_0,2,[],l⟩
abbrev lc10_1:Ts:=[]
abbrev lb10_1:Ts:=[.p q11]
abbrev lv10_1:Ts:=[.v (.int .i64)]
abbrev lr10_1:Ts:=[.v (.bool)]
abbrev R10_1:=Option (Sum (PTup lv10_1) (PTup lr10_1)×BTup lb10_1)
abbrev B10_1:=PTup lb10_1→PTup lv10_1→R10_1
abbrev A10_1:=PTup lc10_1→B10_1
noncomputable def w10_1 (c14:F14) (c12:F12) (c13:F13) (c15:F15) (l0:A10_0) (again:B10_1) (x:PTup lc10_1) (y:PTup lb10_1) (z:PTup lv10_1):R10_1:=
  bif (ltI z.1 (lenI y.1.2.2.2.2.2.2.2.2.2.2.2.2.2.2.2.2.2.2.2.2.2.2.2.2.2.2.2.2.2.2.1))then (bif (leI 0 z.1)then (bif (ltI z.1 (lenI y.1.2.2.2.2.2.2.2.2.2.2.2.2.2.2.2.2.2.2.2.2.2.2.2.2.2.2.2.2.2.2.1))then (bif (ltI (rdE .t y.1.2.2.2.2.2.2.2.2.2.2.2.2.2.2.2.2.2.2.2.2.2.2.2.2.2.2.2.2.2.2.1 z.1).1 y.1.2.2.2.2.2.2.2.2.2.2.2.2.2.2.2.2.2.2.2.2.2.1)then (some ((Sum.inr (false,())),(y.1,())))
     else bif (leI 0 z.1)then (bif (ltI z.1 (lenI y.1.2.2.2.2.2.2.2.2.2.2.2.2.2.2.2.2.2.2.2.2.2.2.2.2.2.2.2.2.2.2.1))then (bif (ltI y.1.2.2.2.2.2.2.2.2.2.2.2.2.2.2.1 (rdE .t y.1.2.2.2.2.2.2.2.2.2.2.2.2.2.2.2.2.2.2.2.2.2.2.2.2.2.2.2.2.2.2.1 z.1).1)then (some ((Sum.inr (false,())),(y.1,())))
       else again (y.1,()) ((wI (z.1+1)),()))
      else none)
     else none)
    else none)
   else none)
  else some ((Sum.inl z),(y.1,()))
noncomputable def e10_1 (l:A10_1):LoopE:=⟨[],lc10_1,[5],lb10_1,[9],lv10_1,[2],lr10_1,0,[],l⟩
noncomputable def m10 (c14:F14) (c12:F12) (c13:F13) (c15:F15) (l0:A10_0) (l1:A10_1) (y:PTup i10):Option (PTup o10×BTup i10):=
  (c12 y).bind fun r0=>
  bif r0.1.1 then (some ((true,()),()))
  else (c13 y).bind fun r1=>
  (c14 r1.1).bind fun r2=>let f0:=r2.1;let f1:=f0.1;let f2:=f1.2;let f3:=f2.2;let f4:=f3.2;let f5:=f4.2;let f6:=f5.2;let f7:=f6.2;let f8:=f7.2;let f9:=f8.2;let f10:=f9.2.2;let f11:=f10.2;let f12:=f11.2;let f13:=f12.2;let f14:=f13.2;let f15:=f14.2;let f16:=f15.2;let f17:=f16.2;let f18:=f17.2;let f19:=f18.2;let f20:=f19.2;let f21:=f20.2;let f22:=f21.2;let f23:=f22.2;let f24:=f23.2;let f25:=f24.2;let f26:=f25.2;let f27:=f26.2;let f28:=f27.2.2;let f29:=f28.2.2.2;let f30:=f29.2.2.2.2.2;(c15 r1.1).bind fun r3=>
  bif (neI f0.2.1 r3.1.2.1)then no
  else bif (ltI f14.1 f21.1)then no
  else bif (ltI f14.1 f29.1)then no
  else bif (ltI f28.1 (lenI f28.2.1))then no
  else bif (ltI f30.2.2.1 (lenI f30.2.2.2.1))then no
  else (l1 () (f1,()) ((0:Int),())).bind fun r4=>let h0:=r4.2;let h1:=h0.1;let h2:=h1.2;let h3:=h2.2;let h4:=h3.2;let h5:=h4.2;let h6:=h5.2;let h7:=h6.2;let h8:=h7.2;let h9:=h8.2;let h10:=h9.2;let h11:=h10.2;let h12:=h11.2;let h13:=h12.2;let h14:=h13.2;let h15:=h14.2;let h16:=h15.2;let h17:=h16.2;let h18:=h17.2;let h19:=h18.2;let h20:=h19.2;let h21:=h20.2;let h22:=h21.2;let h23:=h22.2;let h24:=h23.2;let h25:=h24.2;let h26:=h25.2;let h27:=h26.2;let h28:=h27.2.2;let h29:=h28.2.2;let h30:=h29.2.2;let h31:=h30.2.2;sumElim r4.1 (fun r5=>(l0 () ((f1.1,(f2.1,(f3.1,(h4.1,(h5.1,(h6.1,(h7.1,(h8.1,(h9.1,(h10.1,(h11.1,(h12.1,(h13.1,(h14.1,(h15.1,(h16.1,(h17.1,(h18.1,(h19.1,(h20.1,(f20.1,(h22.1,(h23.1,(h24.1,(h25.1,(h26.1,(h27.1,(f27.1,(f27.2.1,(h28.2.1,(f28.2.1,(f28.2.2.1,(h30.1,(h30.2.1,(h31.1,(h31.2.1,(h31.2.2.1,(h31.2.2.2.1,(h31.2.2.2.2.1,(h31.2.2.2.2.2.1,f30.2.2.2)))))))))))))))))))))))))))))))))))))))),()) ((0:Int),())).bind fun r6=>
   sumElim r6.1 (fun r7=>bif (leI 0 f0.2.1)then (some (((leI f0.2.1 (lenI r1.1.2.1)),()),()))
    else no)
   (fun r7=>some (r7,())))
  (fun r5=>some (r5,()))
noncomputable def E10 (c14:F14) (c12:F12) (c13:F13) (c15:F15) (l0:A10_0) (l1:A10_1):CEnv:=⟨⟨Tryz.prog,fnsL [g14 c14,g12 c12,g13 c13,g15 c15]⟩,loopsL [(14,e10_0 l0),(9,e10_1 l1)]⟩
theorem t10_0 (c14:F14) (c12:F12) (c13:F13) (c15:F15) (l0:A10_0) (l1:A10_1) (again) (x y z):loopRound (E10 c14 c12 c13 c15 l0 l1) (loopAt (bodyOf Tryz.f10) 1) (e10_0 l0) Tryz.f10.ntmps again x y z=w10_0 c14 c12 c13 c15 again x y z:=by kernel_rfl
noncomputable def n10_0 (c14:F14) (c12:F12) (c13:F13) (c15:F15):Nat→A10_0
  |0,_,_,_=>none
  |n+1,x,y,z=>w10_0 c14 c12 c13 c15 (fun y z=>n10_0 c14 c12 c13 c15 n x y z) x y z
theorem t10_1 (c14:F14) (c12:F12) (c13:F13) (c15:F15) (l0:A10_0) (l1:A10_1) (again) (x y z):loopRound (E10 c14 c12 c13 c15 l0 l1) (loopAt (bodyOf Tryz.f10) 0) (e10_1 l1) Tryz.f10.ntmps again x y z=w10_1 c14 c12 c13 c15 l0 again x y z:=by kernel_rfl
noncomputable def n10_1 (c14:F14) (c12:F12) (c13:F13) (c15:F15) (l0:A10_0):Nat→A10_1
  |0,_,_,_=>none
  |n+1,x,y,z=>w10_1 c14 c12 c13 c15 l0 (fun y z=>n10_1 c14 c12 c13 c15 l0 n x y z) x y z
theorem s10 (c14:F14) (c12:F12) (c13:F13) (c15:F15) (l0:A10_0) (l1:A10_1) (y):tevF (E10 c14 c12 c13 c15 l0 l1) Tryz.f10 i10 o10 y=m10 c14 c12 c13 c15 l0 l1 y:=by kernel_rfl
noncomputable def L10_0:A10_0:=n10_0 r14 r12 r13 r15 fuel
noncomputable def L10_1:A10_1:=n10_1 r14 r12 r13 r15 L10_0 fuel
noncomputable def r10:F10:=m10 r14 r12 r13 r15 L10_0 L10_1
theorem k10:KO (g10 r10):=by
  have hE: ∀g f,(E10 r14 r12 r13 r15 L10_0 L10_1).env.fns g=some f→CallOk Tryz.prog g f:=fnsL_ok ⟨k14,k12,k13,k15,⟨⟩⟩
  have h0:LoopOk Tryz.prog Tryz.f10.ntmps (loopAt (bodyOf Tryz.f10) 1) (e10_0 L10_0):=lp_ok (E:=E10 r14 r12 r13 r15 L10_0 L10_1) rfl hE mixed (AllLoops.of_list (l:=[]) (by kernel_rfl) trivial) (n10_0 r14 r12 r13 r15) (fun _ _ _=>rfl) (fun n x y z=>t10_0 r14 r12 r13 r15 L10_0 L10_1 _ x y z) rfl
  have h1:LoopOk Tryz.prog Tryz.f10.ntmps (loopAt (bodyOf Tryz.f10) 0) (e10_1 L10_1):=lp_ok (E:=E10 r14 r12 r13 r15 L10_0 L10_1) rfl hE mixed (AllLoops.of_list (l:=[]) (by kernel_rfl) trivial) (n10_1 r14 r12 r13 r15 L10_0) (fun _ _ _=>rfl) (fun n x y z=>t10_1 r14 r12 r13 r15 L10_0 L10_1 _ x y z) rfl
  exact fn_ok (E:=E10 r14 r12 r13 r15 L10_0 L10_1) rfl hE mixed (by kernel_rfl) (by kernel_rfl) (AllLoops.of_list (l:=[(loopAt (bodyOf Tryz.f10) 0),(loopAt (bodyOf Tryz.f10) 1)]) (by kernel_rfl) (.one (by kernel_rfl) h1 (.one (by kernel_rfl) h0 trivial))) (s10 r14 r12 r13 r15 L10_0 L10_1)
end Go.Proofs.YtgpifihakjdfeaaGreat.Plain
