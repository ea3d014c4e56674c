/- Plain functions that the program's functions answer as; their contracts. Printed by a program of the proofs' writer. No condition. -/
import Derived.Test.YtgeodknaigdenaaGreatW5
import Derived.KernelRfl
import Derived.Test.YtgeodknaigdenaaGreatFn1
set_option linter.unusedVariables false
set_option linter.unusedSimpArgs false
set_option maxRecDepth 100000
namespace Go.Proofs.YtgeodknaigdenaaGreat.Plain
open Go Go.Tev
abbrev i38:Ts:=[.v (.sl false .b)]
abbrev o38:Ts:=[.a q8]
abbrev F38:=FT i38 o38
abbrev g38:=mkG 38 i38 o38
noncomputable def m38 (c144:F144) (c102:F102) (y:PTup i38):Option (PTup o38×BTup i38):=
  (c102 y).bind fun r0=>
  (c144 (r0.1.1,())).bind fun r1=>
  some ((r1.1.1,()),())
theorem s38 (c144:F144) (c102:F102) (y):TE [g144 c144,g102 c102] Tryz.f38 i38 o38 y=m38 c144 c102 y:=by kernel_rfl
noncomputable def r38:F38:=m38 r144 r102
theorem k38:KO (g38 r38):=fk (s38 r144 r102) ⟨k144,k102,⟨⟩⟩ (by kernel_rfl)
abbrev i39:Ts:=[.a q7]
abbrev o39:Ts:=[.a q8, .v (.bool)]
abbrev F39:=FT i39 o39
abbrev g39:=mkG 39 i39 o39
noncomputable def m39 (c146:F146) (c41:F41) (c145:F145) (y:PTup i39):Option (PTup o39×BTup i39):=
  (c41 (y.1,())).bind fun r0=>
  bif (!r0.1.1)then (some ((([],([],([],((0:Int),((0:Int),((0:Int),((0:Int),((0:Int),(false,(false,(false,(false,((0:Int),((0:Int),((0:Int),((0:Int),((0:Int),(false,([],([],((0:Int),((0:Int),((0:Int),((0:Int),((0:Int),(false,(false,(false,((0:Int),(false,((0:Int),([],([],([],())))))))))))))))))))))))))))))))))),(false,())),()))
  else (c145 (y.1,())).bind fun r1=>
  (c146 (r1.1.1,())).bind fun r2=>
  some (((r1.1.1.1,(r1.1.1.2.1,r2.2.1.2.2)),r2.1),())
theorem s39 (c146:F146) (c41:F41) (c145:F145) (y):TE [g146 c146,g41 c41,g145 c145] Tryz.f39 i39 o39 y=m39 c146 c41 c145 y:=by kernel_rfl
noncomputable def r39:F39:=m39 r146 r41 r145
theorem k39:KO (g39 r39):=fk (s39 r146 r41 r145) ⟨k146,k41,k145,⟨⟩⟩ (by kernel_rfl)
abbrev i44:Ts:=[.a q0, .a q1, .v (.int .i64)]
abbrev o44:Ts:=[.a q9]
abbrev F44:=FT i44 o44
abbrev g44:=mkG 44 i44 o44
noncomputable def m44 (c133:F133) (c156:F156) (y:PTup i44):Option (PTup o44×BTup i44):=
  (c133 (y.1,(y.2.1,()))).bind fun r0=>
  bif (!r0.1.1)then (some ((((0:Int),((0:Int),())),()),()))
  else (c156 y).bind fun r1=>
  some ((r1.1.1,()),())
theorem s44 (c133:F133) (c156:F156) (y):TE [g133 c133,g156 c156] Tryz.f44 i44 o44 y=m44 c133 c156 y:=by kernel_rfl
noncomputable def r44:F44:=m44 r133 r156
theorem k44:KO (g44 r44):=fk (s44 r133 r156) ⟨k133,k156,⟨⟩⟩ (by kernel_rfl)
abbrev i7:Ts:=[.v (.sl false .b)]
abbrev o7:Ts:=[.v (.bool)]
abbrev R7:=Option (PTup o7×BTup i7)
abbrev F7:=PTup i7→R7
abbrev g7:=mkG 7 i7 o7
noncomputable def m7 (c44:F44) (c41:F41) (c23:F23) (c39:F39) (c43:F43) (c20:F20) (c38:F38) (c42:F42) (c40:F40) (y:PTup i7):R7:=
  (c20 y).bind fun r0=>bif r0.1.1 then (some ((true,()),()))else (c38 y).bind fun r1=>let d0:=r1.1;let d1:=d0.1;let d2:=d1.2;let d3:=d2.2;let d4:=d3.2;let d5:=d4.2;let d6:=d5.2;let d7:=d6.2;let d8:=d7.2;let d9:=d8.2;let d10:=d9.2.2;let d11:=d10.2;let d12:=d11.2;let d13:=d12.2.2;let d14:=d13.2.2;let d15:=d14.2.2;let d16:=d15.2.2;let d17:=d16.2.2;let d18:=d17.2.2;let d19:=d18.2.2;let d20:=d19.2.2.2;let X0:R7:=some (((ltI 19992 d12.1),()),());(c39 (d1,())).bind fun r2=>let X1:R7:=(c44 ((d1.1,()),((d3.1,(d4.1,())),(d8.1,())))).bind fun r7=>(c43 (r7.1.1.1,())).bind fun r8=>bif (eqI (wI (r2.1.1.2.2.2.2.2.2.2.2.2.2.2.2.1-d12.1)) r8.1.1)then ((c41 (r2.1.1,())).bind fun r9=>bif r9.1.1 then (some (((eqI r2.1.1.2.2.2.2.2.2.2.2.2.2.2.2.2.2.2.2.2.2.2.2.2.2.2.2.2.2.2.2.2.2.1 (wI (d20.2.1+1))),()),()))else no)else no;let X2:R7:=(c44 ((d1.1,()),((d3.1,(d4.1,())),(d8.1,())))).bind fun r6=>(c43 (r6.1.1.1,())).bind fun r7=>bif (eqI (wI (r2.1.1.2.2.2.2.2.2.2.2.2.2.2.2.1-d12.1)) r7.1.1)then ((c41 (r2.1.1,())).bind fun r8=>bif r8.1.1 then (some (((eqI r2.1.1.2.2.2.2.2.2.2.2.2.2.2.2.2.2.2.2.2.2.2.2.2.2.2.2.2.2.2.2.2.2.1 (wI (d20.2.1+1))),()),()))else no)else no;let X3:R7:=bif (eqI (wI (r2.1.1.2.2.2.2.2.2.2.2.2.2.2.2.1-d12.1)) (7:Int))then (bif r2.1.1.2.2.2.2.2.2.2.2.2.2.2.1 then ((c41 (r2.1.1,())).bind fun r7=>some (r7.1,()))else no)else no;let X4:R7:=bif (eqI (wI (r2.1.1.2.2.2.2.2.2.2.2.2.2.2.2.1-d12.1)) (7:Int))then (bif r2.1.1.2.2.2.2.2.2.2.2.2.2.2.1 then ((c41 (r2.1.1,())).bind fun r6=>some (r6.1,()))else no)else no;(c40 (d1,())).bind fun r3=>bif (! (r2.1.2.1==r3.1.2.1))then no else (c41 (d1,())).bind fun r4=>(c42 (d1,())).bind fun r5=>bif (! (r4.1.1==r5.1.1))then no else bif r2.1.2.1 then ((c23 (r2.1.1,(r3.1.1,()))).bind fun r6=>bif (!r6.1.1)then no else bif (!r2.1.2.1)then (bif (eqI (lenI r2.1.1.2.2.1) 0)then (some ((true,()),()))else (c23 (d1,(r2.1.1,()))).bind fun r7=>bif r7.1.1 then X0 else no)else bif d20.1 then X3 else bif d19.1 then (bif (!d11.1)then X3 else X1)else X1)else bif (!r2.1.2.1)then (bif (eqI (lenI r2.1.1.2.2.1) 0)then (some ((true,()),()))else (c23 (d1,(r2.1.1,()))).bind fun r6=>bif r6.1.1 then X0 else no)else bif d20.1 then X4 else bif d19.1 then (bif (!d11.1)then X4 else X2)else X2
theorem s7 (c44:F44) (c41:F41) (c23:F23) (c39:F39) (c43:F43) (c20:F20) (c38:F38) (c42:F42) (c40:F40) (y):TE [g44 c44,g41 c41,g23 c23,g39 c39,g43 c43,g20 c20,g38 c38,g42 c42,g40 c40] Tryz.f7 i7 o7 y=m7 c44 c41 c23 c39 c43 c20 c38 c42 c40 y:=by kernel_rfl
noncomputable def r7:F7:=m7 r44 r41 r23 r39 r43 r20 r38 r42 r40
theorem k7:KO (g7 r7):=fk (s7 r44 r41 r23 r39 r43 r20 r38 r42 r40) ⟨k44,k41,k23,k39,k43,k20,k38,k42,k40,⟨⟩⟩ (by kernel_rfl)
end Go.Proofs.YtgeodknaigdenaaGreat.Plain
