/- Plain functions that the program's functions answer as; their contracts. Printed by a program of the proofs' writer. No condition. -/
import Derived.Test.YtgeodknaigdenaaGreatW5
import Derived.KernelRfl
import Derived.Test.YtgeodknaigdenaaGreatFn1
set_option linter.unusedVariables false
set_option linter.unusedSimpArgs false
set_option maxRecDepth 100000
namespace Go.Proofs.YtgeodknaigdenaaGreat.Plain
open Go Go.Tev
abbrev i46:Ts:=[.a q7, .v (.int .i64)]
abbrev o46:Ts:=[.a q8, .v (.int .i64)]
abbrev R46:=Option (PTup o46×BTup i46)
abbrev F46:=PTup i46→R46
abbrev g46:=mkG 46 i46 o46
abbrev lc46_0:Ts:=[.v (.int .i64)]
abbrev lb46_0:Ts:=[.p [.sl false .n, .sl false .i, .sl true .i, .int .i64, .int .i64, .int .i64, .int .i64, .int .i64, .bool, .bool, .bool, .bool, .int .i64, .int .i64, .int .i64, .int .i64, .int .i64, .bool, .sl true .i, .sl true .i, .int .i64, .int .i64, .int .i64, .int .i64, .int .i64, .bool, .bool, .bool, .int .i64, .bool, .int .i64, .sl true .n, .sl true .i, .sl true .i]]
abbrev lv46_0:Ts:=[.v (.int .i64)]
abbrev lr46_0:Ts:=[]
abbrev R46_0:=Option (Sum (PTup lv46_0) (PTup lr46_0)×BTup lb46_0)
abbrev B46_0:=PTup lb46_0→PTup lv46_0→R46_0
abbrev A46_0:=PTup lc46_0→B46_0
noncomputable def w46_0 (c146:F146) (c41:F41) (c145:F145) (again:B46_0) (x:PTup lc46_0) (y:PTup lb46_0) (z:PTup lv46_0):R46_0:=
  bif (ltI z.1 (mnI x.1 (3000:Int)))then ((c146 (y.1,())).bind fun r0=>
   bif (!r0.1.1)then (some ((Sum.inl z),((y.1.1,(y.1.2.1,r0.2.1.2.2)),())))
   else again ((y.1.1,(y.1.2.1,r0.2.1.2.2)),()) ((wI (z.1+1)),()))
  else some ((Sum.inl z),(y.1,()))
noncomputable def e46_0 (l:A46_0):LoopE:=⟨[1],lc46_0,[6],lb46_0,[7],lv46_0,[],lr46_0,0,[],l⟩
noncomputable def m46 (c146:F146) (c41:F41) (c145:F145) (l0:A46_0) (y:PTup i46):R46:=
  let X0:R46:=some ((([],([],([],((0:Int),((0:Int),((0:Int),((0:Int),((0:Int),(false,(false,(false,(false,((0:Int),((0:Int),((0:Int),((0:Int),((0:Int),(false,([],([],((0:Int),((0:Int),((0:Int),((0:Int),((0:Int),(false,(false,(false,((0:Int),(false,((0:Int),([],([],([],())))))))))))))))))))))))))))))))))),((0:Int),())),());(c41 (y.1,())).bind fun r0=>bif (!r0.1.1)then X0 else (c145 (y.1,())).bind fun r1=>(l0 y.2 (r1.1.1,()) ((0:Int),())).bind fun r2=>sumElim r2.1 (fun r3=>some (((r1.1.1.1,(r1.1.1.2.1,r2.2.1.2.2)),r3),())) (fun r3=>X0)
noncomputable def E46 (c146:F146) (c41:F41) (c145:F145) (l0:A46_0):CEnv:=⟨⟨Tryz.prog,fnsL [g146 c146,g41 c41,g145 c145]⟩,loopsL [(5,e46_0 l0)]⟩
theorem t46_0 (c146:F146) (c41:F41) (c145:F145) (l0:A46_0) (again) (x y z):loopRound (E46 c146 c41 c145 l0) (loopAt (bodyOf Tryz.f46) 0) (e46_0 l0) Tryz.f46.ntmps again x y z=w46_0 c146 c41 c145 again x y z:=by kernel_rfl
noncomputable def n46_0 (c146:F146) (c41:F41) (c145:F145):Nat→A46_0
  |0,_,_,_=>none
  |n+1,x,y,z=>w46_0 c146 c41 c145 (fun y z=>n46_0 c146 c41 c145 n x y z) x y z
theorem s46 (c146:F146) (c41:F41) (c145:F145) (l0:A46_0) (y):tevF (E46 c146 c41 c145 l0) Tryz.f46 i46 o46 y=m46 c146 c41 c145 l0 y:=by kernel_rfl
noncomputable def L46_0:A46_0:=n46_0 r146 r41 r145 fuel
noncomputable def r46:F46:=m46 r146 r41 r145 L46_0
theorem k46:KO (g46 r46):=by
  have hE: ∀g f,(E46 r146 r41 r145 L46_0).env.fns g=some f→CallOk Tryz.prog g f:=fnsL_ok ⟨k146,k41,k145,⟨⟩⟩
  have h0:LoopOk Tryz.prog Tryz.f46.ntmps (loopAt (bodyOf Tryz.f46) 0) (e46_0 L46_0):=lp_ok (E:=E46 r146 r41 r145 L46_0) rfl hE mixed (AllLoops.of_list (l:=[]) (by kernel_rfl) trivial) (n46_0 r146 r41 r145) (fun _ _ _=>rfl) (fun n x y z=>t46_0 r146 r41 r145 L46_0 _ x y z) rfl
  exact fn_ok (E:=E46 r146 r41 r145 L46_0) rfl hE mixed (by kernel_rfl) (by kernel_rfl) (AllLoops.of_list (l:=[(loopAt (bodyOf Tryz.f46) 0)]) (by kernel_rfl) (.one (by kernel_rfl) h0 trivial)) (s46 r146 r41 r145 L46_0)
abbrev i45:Ts:=[.v (.sl false .b)]
abbrev o45:Ts:=[.a q8, .v (.int .i64)]
abbrev F45:=FT i45 o45
abbrev g45:=mkG 45 i45 o45
noncomputable def m45 (c144:F144) (c157:F157) (c102:F102) (y:PTup i45):Option (PTup o45×BTup i45):=
  (c102 y).bind fun r0=>
  (c144 (r0.1.1,())).bind fun r1=>
  (c157 ((r0.1.1.1,r1.2.1.2),((60:Int),()))).bind fun r2=>
  some ((r1.1.1,((wI (r2.1.1-2)),())),())
theorem s45 (c144:F144) (c157:F157) (c102:F102) (y):TE [g144 c144,g157 c157,g102 c102] Tryz.f45 i45 o45 y=m45 c144 c157 c102 y:=by kernel_rfl
noncomputable def r45:F45:=m45 r144 r157 r102
theorem k45:KO (g45 r45):=fk (s45 r144 r157 r102) ⟨k144,k157,k102,⟨⟩⟩ (by kernel_rfl)
abbrev i48:Ts:=[.v (.sl false .b), .v (.int .i64)]
abbrev o48:Ts:=[.v (.int .i64)]
abbrev F48:=FT i48 o48
abbrev g48:=mkG 48 i48 o48
noncomputable def m48 (y:PTup i48):Option (PTup o48×BTup i48):=
  bif (ltI y.2.1 (lenI y.1))then (bif (leI 0 y.2.1)then (bif (ltI y.2.1 (lenI y.1))then (some (((wI (rdE .b y.1 y.2.1)),()),()))
    else none)
   else none)
  else some (((Int.tmod (wI ((wI (y.2.1*7))+(lenI y.1))) (256:Int)),()),())
theorem s48 (y):TE [] Tryz.f48 i48 o48 y=m48 y:=by kernel_rfl
noncomputable def r48:F48:=m48
theorem k48:KO (g48 r48):=fk (s48) trivial (by kernel_rfl)
abbrev i49:Ts:=[.a [.sl false .n, .sl false .i, .sl false .i], .a [.sl false .n, .sl false .i, .sl false .i]]
abbrev o49:Ts:=[.v (.bool)]
abbrev F49:=FT i49 o49
abbrev g49:=mkG 49 i49 o49
noncomputable def m49 (c26:F26) (y:PTup i49):Option (PTup o49×BTup i49):=
  bif (ltI (lenI y.2.1.1) (lenI y.1.1))then no
  else bif (ltI (lenI y.2.1.2.1) (lenI y.1.2.1))then no
  else bif (ltI (lenI y.2.1.2.2.1) (lenI y.1.2.2.1))then no
  else bif (leI (lenI y.1.1) (lenI y.2.1.1))then (bif (leI (lenI y.1.2.1) (lenI y.2.1.2.1))then (bif (leI (lenI y.1.2.2.1) (lenI y.2.1.2.2.1))then ((c26 (y.1,(((List.take (Int.toNat (lenI y.1.1)) y.2.1.1),((List.take (Int.toNat (lenI y.1.2.1)) y.2.1.2.1),((List.take (Int.toNat (lenI y.1.2.2.1)) y.2.1.2.2.1),()))),()))).bind fun r0=>
     some (r0.1,()))
    else none)
   else none)
  else none
theorem s49 (c26:F26) (y):TE [g26 c26] Tryz.f49 i49 o49 y=m49 c26 y:=by kernel_rfl
noncomputable def r49:F49:=m49 r26
theorem k49:KO (g49 r49):=fk (s49 r26) ⟨k26,⟨⟩⟩ (by kernel_rfl)
abbrev i8:Ts:=[.v (.sl false .b)]
abbrev o8:Ts:=[.v (.bool)]
abbrev F8:=FT i8 o8
abbrev g8:=mkG 8 i8 o8
noncomputable def m8 (c46:F46) (c23:F23) (c49:F49) (c48:F48) (c20:F20) (c45:F45) (c42:F42) (c47:F47) (y:PTup i8):Option (PTup o8×BTup i8):=
  (c20 y).bind fun r0=>
  bif r0.1.1 then (some ((true,()),()))
  else (c45 y).bind fun r1=>
  (c46 r1.1).bind fun r2=>
  (c47 r1.1).bind fun r3=>
  bif (neI r2.1.2.1 r3.1.2.1)then no
  else (c42 (r1.1.1,())).bind fun r4=>
  bif (!r4.1.1)then (bif (eqI r2.1.2.1 0)then (some (((eqI (lenI r2.1.1.2.2.1) 0),()),()))
   else no)
  else (c48 (y.1,((1:Int),()))).bind fun r5=>
  bif (neI (wI (r2.1.2.1+1)) (0:Int))then ((c46 (r1.1.1,((Int.tmod r5.1.1 (wI (r2.1.2.1+1))),()))).bind fun r6=>
   (c46 (r6.1.1,((wI (r2.1.2.1-(Int.tmod r5.1.1 (wI (r2.1.2.1+1))))),()))).bind fun r7=>
   bif (eqI r6.1.2.1 (Int.tmod r5.1.1 (wI (r2.1.2.1+1))))then (bif (eqI r7.1.2.1 (wI (r2.1.2.1-(Int.tmod r5.1.1 (wI (r2.1.2.1+1))))))then ((c23 (r7.1.1,(r2.1.1,()))).bind fun r8=>
     bif r8.1.1 then ((c49 (r1.1.1.2.2.2.2.2.2.2.2.2.2.2.2.2.2.2.2.2.2.2.2.2.2.2.2.2.2.2.2.2.2.2,(r2.1.1.2.2.2.2.2.2.2.2.2.2.2.2.2.2.2.2.2.2.2.2.2.2.2.2.2.2.2.2.2.2.2,()))).bind fun r9=>
      bif r9.1.1 then ((c49 (r6.1.1.2.2.2.2.2.2.2.2.2.2.2.2.2.2.2.2.2.2.2.2.2.2.2.2.2.2.2.2.2.2.2,(r2.1.1.2.2.2.2.2.2.2.2.2.2.2.2.2.2.2.2.2.2.2.2.2.2.2.2.2.2.2.2.2.2.2,()))).bind fun r10=>
       some (r10.1,()))
      else no)
     else no)
    else no)
   else no)
  else none
theorem s8 (c46:F46) (c23:F23) (c49:F49) (c48:F48) (c20:F20) (c45:F45) (c42:F42) (c47:F47) (y):TE [g46 c46,g23 c23,g49 c49,g48 c48,g20 c20,g45 c45,g42 c42,g47 c47] Tryz.f8 i8 o8 y=m8 c46 c23 c49 c48 c20 c45 c42 c47 y:=by kernel_rfl
noncomputable def r8:F8:=m8 r46 r23 r49 r48 r20 r45 r42 r47
theorem k8:KO (g8 r8):=fk (s8 r46 r23 r49 r48 r20 r45 r42 r47) ⟨k46,k23,k49,k48,k20,k45,k42,k47,⟨⟩⟩ (by kernel_rfl)
end Go.Proofs.YtgeodknaigdenaaGreat.Plain
