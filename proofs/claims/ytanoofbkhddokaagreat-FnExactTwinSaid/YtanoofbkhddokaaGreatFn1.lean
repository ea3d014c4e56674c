/- Plain functions that the program's functions answer as; their contracts. Printed by a program of the proofs' writer. No condition. -/
import Derived.Test.YtanoofbkhddokaaGreatUf
import Derived.KernelRfl
import Derived.Test.YtanoofbkhddokaaGreatFn0
set_option linter.unusedVariables false
set_option linter.unusedSimpArgs false
set_option maxRecDepth 100000
namespace Go.Proofs.YtanoofbkhddokaaGreat.Plain
open Go Go.Tev
@[reducible] def i94 : List Ty := [.a q13]
@[reducible] def o94 : List Ty := [.v (.bool)]
abbrev R94 := Option (PTup o94 × BTup i94)
abbrev F94 := PTup i94 → R94
abbrev g94 (c : F94) : Nat × Tev.Fn := (94, ⟨i94, o94, c, .nor⟩)
noncomputable def m94 (c175 : F175) (c153 : F153) (c151 : F151) (c152 : F152) (c174 : F174) (c176 : F176) (c156 : F156) (c177 : F177) (c158 : F158)  (y : PTup i94) : Option (PTup o94 × BTup i94) :=
  let a0 := y.1; let a1 := a0.2; let a2 := a1.2; let a3 := a2.2; let a4 := a3.2; let a5 := a4.2; let a6 := a5.2; let a7 := a6.2; let a8 := a7.2; let a9 := a8.2; let a10 := a9.2; let a11 := a10.2; let a12 := a11.2; let a13 := a12.2; let a14 := a13.2; let a15 := a14.2; let a16 := a15.2; let a17 := a16.2; let a18 := a17.2; let a19 := a18.2; let a20 := a19.2; let a21 := a20.2; let a22 := a21.2.2; let a23 := a22.2.2; let a24 := a23.2.2.2; (c151 ((a0.1, ()), ((a2.1, (a3.1, ())), ()))).bind fun r0 =>
  bif r0.1.1 then ((c152 (a1.1, ())).bind fun r1 =>
   bif r1.1.1 then ((c153 ((a4.1, (a5.1, (a6.1, (a7.1, (a8.1, (a9.1, (a10.1, (a11.1, ())))))))), ())).bind fun r2 =>
    bif r2.1.1 then ((c174 ((a12.1, (a13.1, (a14.1, (a15.1, (a16.1, (a17.1, (a18.1, (a19.1, ())))))))), ())).bind fun r3 =>
     bif r3.1.1 then ((c175 ((a20.1, (a21.1, (a21.2.1, (a22.1, (a22.2.1, (a23.1, (a23.2.1, ()))))))), ())).bind fun r4 =>
      bif r4.1.1 then ((c156 (a24.1, ())).bind fun r5 =>
       bif r5.1.1 then (bif (eqI a20.1 a12.1) then ((c158 (a24.2.2.1, ((0 : Int), (a12.1, ())))).bind fun r6 =>
         bif r6.1.1 then ((c176 (a24.2.2.2.1, (a12.1, ()))).bind fun r7 =>
          bif r7.1.1 then ((c177 (a24.2.2.2.2.1, (a12.1, ()))).bind fun r8 =>
           some (r8.1, ()))
          else some ((false, ()), ()))
         else some ((false, ()), ()))
        else some ((false, ()), ()))
       else some ((false, ()), ()))
      else some ((false, ()), ()))
     else some ((false, ()), ()))
    else some ((false, ()), ()))
   else some ((false, ()), ()))
  else some ((false, ()), ())
noncomputable def E94 (c175 : F175) (c153 : F153) (c151 : F151) (c152 : F152) (c174 : F174) (c176 : F176) (c156 : F156) (c177 : F177) (c158 : F158) := mkE [g175 c175, g153 c153, g151 c151, g152 c152, g174 c174, g176 c176, g156 c156, g177 c177, g158 c158]
theorem s94 (c175 : F175) (c153 : F153) (c151 : F151) (c152 : F152) (c174 : F174) (c176 : F176) (c156 : F156) (c177 : F177) (c158 : F158)  (y) : tevF (E94 c175 c153 c151 c152 c174 c176 c156 c177 c158 ) Tryz.f94 i94 o94 y = m94 c175 c153 c151 c152 c174 c176 c156 c177 c158  y := by kernel_rfl
noncomputable def r94 : F94 := m94 r175 r153 r151 r152 r174 r176 r156 r177 r158 
theorem k94 : CK Tryz.prog (g94 r94) := fn0 (s94 r175 r153 r151 r152 r174 r176 r156 r177 r158) (fnsL_ok ⟨k175, k153, k151, k152, k174, k176, k156, k177, k158, trivial⟩) rfl mixed (by kernel_rfl) (by kernel_rfl) (by kernel_rfl)
@[reducible] def i95 : List Ty := [.a q13]
@[reducible] def o95 : List Ty := [.a q14]
abbrev R95 := Option (PTup o95 × BTup i95)
abbrev F95 := PTup i95 → R95
abbrev g95 (c : F95) : Nat × Tev.Fn := (95, ⟨i95, o95, c, .nor⟩)
noncomputable def m95 (c179 : F179) (c146 : F146) (c147 : F147) (c148 : F148) (c178 : F178)  (y : PTup i95) : Option (PTup o95 × BTup i95) :=
  let a0 := y.1; let a1 := a0.2; let a2 := a1.2; let a3 := a2.2; let a4 := a3.2; let a5 := a4.2; let a6 := a5.2; let a7 := a6.2; let a8 := a7.2; let a9 := a8.2; let a10 := a9.2; let a11 := a10.2; let a12 := a11.2; let a13 := a12.2; let a14 := a13.2; let a15 := a14.2; let a16 := a15.2; let a17 := a16.2; let a18 := a17.2; let a19 := a18.2; let a20 := a19.2; let a21 := a20.2; let a22 := a21.2; let a23 := a22.2; let a24 := a23.2; let a25 := a24.2.2; let a26 := a25.2.2; (c146 ((a0.1, ()), ())).bind fun r0 =>
  (c147 (a1.1, ())).bind fun r1 =>
  (c148 ((a2.1, (a3.1, ())), ())).bind fun r2 =>
  (c178 ((a12.1, (a13.1, (a14.1, (a15.1, (a16.1, (a17.1, (a18.1, (a19.1, ())))))))), ())).bind fun r3 =>
  (c179 (a26.2.2.2.1, ())).bind fun r4 =>
  (c147 (a26.2.2.2.2.1, ())).bind fun r5 =>
  (c147 a26.2.2.2.2.2).bind fun r6 =>
  some (((r0.1.1.1, (r1.1.1, (r2.1.1.1, (r2.1.1.2.1, (a4.1, (a5.1, (a6.1, (a7.1, (a8.1, (a9.1, (a10.1, (a11.1, (r3.1.1.1, (r3.1.1.2.1, (r3.1.1.2.2.1, (r3.1.1.2.2.2.1, (r3.1.1.2.2.2.2.1, (r3.1.1.2.2.2.2.2.1, (r3.1.1.2.2.2.2.2.2.1, (r3.1.1.2.2.2.2.2.2.2.1, (a20.1, (a21.1, (a22.1, (a23.1, (a24.1, (a24.2.1, (a25.1, (a25.2.1, (a26.1, (a26.2.1, (a26.2.2.1, (r4.1.1, (r5.1.1, r6.1))))))))))))))))))))))))))))))))), ()), ())
noncomputable def E95 (c179 : F179) (c146 : F146) (c147 : F147) (c148 : F148) (c178 : F178) := mkE [g179 c179, g146 c146, g147 c147, g148 c148, g178 c178]
theorem s95 (c179 : F179) (c146 : F146) (c147 : F147) (c148 : F148) (c178 : F178)  (y) : tevF (E95 c179 c146 c147 c148 c178 ) Tryz.f95 i95 o95 y = m95 c179 c146 c147 c148 c178  y := by kernel_rfl
noncomputable def r95 : F95 := m95 r179 r146 r147 r148 r178 
theorem k95 : CK Tryz.prog (g95 r95) := fn0 (s95 r179 r146 r147 r148 r178) (fnsL_ok ⟨k179, k146, k147, k148, k178, trivial⟩) rfl mixed (by kernel_rfl) (by kernel_rfl) (by kernel_rfl)
@[reducible] def i299 : List Ty := [.v (.int .i64)]
@[reducible] def o299 : List Ty := [.v (.int .i64)]
abbrev R299 := Option (PTup o299 × BTup i299)
abbrev F299 := PTup i299 → R299
abbrev g299 (c : F299) : Nat × Tev.Fn := (299, ⟨i299, o299, c, .nor⟩)
noncomputable def m299   (y : PTup i299) : Option (PTup o299 × BTup i299) :=
  some (((bAnd Go.IntKind.i64 y.1 (65535 : Int)), ()), ())
noncomputable def E299  := mkE []
theorem s299   (y) : tevF (E299  ) Tryz.f299 i299 o299 y = m299   y := by kernel_rfl
noncomputable def r299 : F299 := m299  
theorem k299 : CK Tryz.prog (g299 r299) := fn0 (s299 ) (fnsL_ok trivial) rfl mixed (by kernel_rfl) (by kernel_rfl) (by kernel_rfl)
@[reducible] def i277 : List Ty := [.v (.int .i64)]
@[reducible] def o277 : List Ty := [.v (.int .i64), .v (.int .i64)]
abbrev R277 := Option (PTup o277 × BTup i277)
abbrev F277 := PTup i277 → R277
abbrev g277 (c : F277) : Nat × Tev.Fn := (277, ⟨i277, o277, c, .nor⟩)
noncomputable def m277 (c299 : F299)  (y : PTup i277) : Option (PTup o277 × BTup i277) :=
  (c299 y).bind fun r0 =>
  bif (ltI r0.1.1 (8192 : Int)) then (some (((1 : Int), ((Int.tmod r0.1.1 (512 : Int)), ())), ()))
  else bif (ltI r0.1.1 (16384 : Int)) then (some (((2 : Int), ((Int.tmod r0.1.1 (8 : Int)), ())), ()))
  else bif (ltI r0.1.1 (16388 : Int)) then (some (((3 : Int), ((Int.tmod r0.1.1 (4 : Int)), ())), ()))
  else bif (eqI r0.1.1 (16406 : Int)) then (some (((4 : Int), ((0 : Int), ())), ()))
  else bif (ltI r0.1.1 (32768 : Int)) then (some (((7 : Int), ((0 : Int), ())), ()))
  else bif (ltI r0.1.1 (49152 : Int)) then (some (((5 : Int), ((Int.tmod r0.1.1 (256 : Int)), ())), ()))
  else some (((6 : Int), ((Int.tmod r0.1.1 (256 : Int)), ())), ())
noncomputable def E277 (c299 : F299) := mkE [g299 c299]
theorem s277 (c299 : F299)  (y) : tevF (E277 c299 ) Tryz.f277 i277 o277 y = m277 c299  y := by kernel_rfl
noncomputable def r277 : F277 := m277 r299 
theorem k277 : CK Tryz.prog (g277 r277) := fn0 (s277 r299) (fnsL_ok ⟨k299, trivial⟩) rfl mixed (by kernel_rfl) (by kernel_rfl) (by kernel_rfl)
@[reducible] def i247 : List Ty := [.a q0, .a q1, .v (.int .i64)]
@[reducible] def o247 : List Ty := [.v (.int .i64)]
abbrev R247 := Option (PTup o247 × BTup i247)
abbrev F247 := PTup i247 → R247
abbrev g247 (c : F247) : Nat × Tev.Fn := (247, ⟨i247, o247, c, .nor⟩)
noncomputable def m247 (c277 : F277)  (y : PTup i247) : Option (PTup o247 × BTup i247) :=
  (c277 y.2.2).bind fun r0 =>
  bif (eqI r0.1.1 (1 : Int)) then (bif (leI (0 : Int) r0.1.2.1) then (bif (ltI r0.1.2.1 (lenI y.2.1.1)) then (some (((rdE .i y.2.1.1 r0.1.2.1), ()), ()))
    else none)
   else none)
  else bif (eqI r0.1.1 (5 : Int)) then (bif (leI (0 : Int) y.2.1.2.1) then (bif (ltI y.2.1.2.1 (lenI y.1.1)) then (bif (leI (0 : Int) r0.1.2.1) then (bif (ltI r0.1.2.1 (lenI (rdE .n y.1.1 y.2.1.2.1))) then (some (((rdI (rdE .n y.1.1 y.2.1.2.1) r0.1.2.1), ()), ()))
      else none)
     else none)
    else none)
   else none)
  else bif (eqI r0.1.1 (6 : Int)) then (bif (leI (0 : Int) (wI ((lenI y.1.1) - (1 : Int)))) then (bif (ltI (wI ((lenI y.1.1) - (1 : Int))) (lenI y.1.1)) then (bif (leI (0 : Int) r0.1.2.1) then (bif (ltI r0.1.2.1 (lenI (rdE .n y.1.1 (wI ((lenI y.1.1) - (1 : Int)))))) then (some (((rdI (rdE .n y.1.1 (wI ((lenI y.1.1) - (1 : Int)))) r0.1.2.1), ()), ()))
      else none)
     else none)
    else none)
   else none)
  else some (((0 : Int), ()), ())
noncomputable def E247 (c277 : F277) := mkE [g277 c277]
theorem s247 (c277 : F277)  (y) : tevF (E247 c277 ) Tryz.f247 i247 o247 y = m247 c277  y := by kernel_rfl
noncomputable def r247 : F247 := m247 r277 
theorem k247 : CK Tryz.prog (g247 r247) := fn0 (s247 r277) (fnsL_ok ⟨k277, trivial⟩) rfl mixed (by kernel_rfl) (by kernel_rfl) (by kernel_rfl)
@[reducible] def i248 : List Ty := [.v (.int .i64)]
@[reducible] def o248 : List Ty := [.v (.int .i64)]
abbrev R248 := Option (PTup o248 × BTup i248)
abbrev F248 := PTup i248 → R248
abbrev g248 (c : F248) : Nat × Tev.Fn := (248, ⟨i248, o248, c, .nor⟩)
noncomputable def m248 (c158 : F158)  (y : PTup i248) : Option (PTup o248 × BTup i248) :=
  bif (eqI y.1 (1 : Int)) then (some (((2 : Int), ()), ()))
  else (c158 (y.1, ((4 : Int), ((9 : Int), ())))).bind fun r0 =>
  bif r0.1.1 then (some (((2 : Int), ()), ()))
  else bif (eqI y.1 (2 : Int)) then (some (((3 : Int), ()), ()))
  else bif (eqI y.1 (3 : Int)) then (some (((3 : Int), ()), ()))
  else (c158 (y.1, ((14 : Int), ((20 : Int), ())))).bind fun r1 =>
  bif r1.1.1 then (some (((3 : Int), ()), ()))
  else bif (eqI y.1 (29 : Int)) then (some (((3 : Int), ()), ()))
  else some (((1 : Int), ()), ())
noncomputable def E248 (c158 : F158) := mkE [g158 c158]
theorem s248 (c158 : F158)  (y) : tevF (E248 c158 ) Tryz.f248 i248 o248 y = m248 c158  y := by kernel_rfl
noncomputable def r248 : F248 := m248 r158 
theorem k248 : CK Tryz.prog (g248 r248) := fn0 (s248 r158) (fnsL_ok ⟨k158, trivial⟩) rfl mixed (by kernel_rfl) (by kernel_rfl) (by kernel_rfl)
@[reducible] def i249 : List Ty := [.v (.int .i64), .v (.int .i64)]
@[reducible] def o249 : List Ty := [.v (.int .i64)]
abbrev R249 := Option (PTup o249 × BTup i249)
abbrev F249 := PTup i249 → R249
abbrev g249 (c : F249) : Nat × Tev.Fn := (249, ⟨i249, o249, c, .nor⟩)
noncomputable def m249 (c294 : F294)  (y : PTup i249) : Option (PTup o249 × BTup i249) :=
  (c294 (y.1, ())).bind fun r0 =>
  (c294 y.2).bind fun r1 =>
  some (((wI (r0.1.1 + (wI ((256 : Int) * r1.1.1)))), ()), ())
noncomputable def E249 (c294 : F294) := mkE [g294 c294]
theorem s249 (c294 : F294)  (y) : tevF (E249 c294 ) Tryz.f249 i249 o249 y = m249 c294  y := by kernel_rfl
noncomputable def r249 : F249 := m249 r294 
theorem k249 : CK Tryz.prog (g249 r249) := fn0 (s249 r294) (fnsL_ok ⟨k294, trivial⟩) rfl mixed (by kernel_rfl) (by kernel_rfl) (by kernel_rfl)
@[reducible] def i180 : List Ty := [.a q0, .a q1, .v (.int .i64)]
@[reducible] def o180 : List Ty := [.a q15]
abbrev R180 := Option (PTup o180 × BTup i180)
abbrev F180 := PTup i180 → R180
abbrev g180 (c : F180) : Nat × Tev.Fn := (180, ⟨i180, o180, c, .nor⟩)
noncomputable def m180 (c249 : F249) (c248 : F248) (c247 : F247)  (y : PTup i180) : Option (PTup o180 × BTup i180) :=
  (c247 y).bind fun r0 =>
  (c248 r0.1).bind fun r1 =>
  bif (eqI r1.1.1 (2 : Int)) then ((c247 (y.1, (y.2.1, ((wI (y.2.2.1 + (1 : Int))), ())))).bind fun r2 =>
   some (((r0.1.1, r2.1), ()), ()))
  else bif (eqI r1.1.1 (3 : Int)) then ((c247 (y.1, (y.2.1, ((wI (y.2.2.1 + (1 : Int))), ())))).bind fun r2 =>
   (c247 (y.1, (y.2.1, ((wI (y.2.2.1 + (2 : Int))), ())))).bind fun r3 =>
   (c249 (r2.1.1, r3.1)).bind fun r4 =>
   some (((r0.1.1, r4.1), ()), ()))
  else some (((r0.1.1, ((0 : Int), ())), ()), ())
noncomputable def E180 (c249 : F249) (c248 : F248) (c247 : F247) := mkE [g249 c249, g248 c248, g247 c247]
theorem s180 (c249 : F249) (c248 : F248) (c247 : F247)  (y) : tevF (E180 c249 c248 c247 ) Tryz.f180 i180 o180 y = m180 c249 c248 c247  y := by kernel_rfl
noncomputable def r180 : F180 := m180 r249 r248 r247 
theorem k180 : CK Tryz.prog (g180 r180) := fn0 (s180 r249 r248 r247) (fnsL_ok ⟨k249, k248, k247, trivial⟩) rfl mixed (by kernel_rfl) (by kernel_rfl) (by kernel_rfl)
@[reducible] def i181 : List Ty := [.v (.int .i64)]
@[reducible] def o181 : List Ty := [.v (.int .i64)]
abbrev R181 := Option (PTup o181 × BTup i181)
abbrev F181 := PTup i181 → R181
abbrev g181 (c : F181) : Nat × Tev.Fn := (181, ⟨i181, o181, c, .nor⟩)
noncomputable def m181   (y : PTup i181) : Option (PTup o181 × BTup i181) :=
  let X0 : R181 := bif (eqI y.1 (15 : Int)) then (some (((5 : Int), ()), ())) else bif (eqI y.1 (16 : Int)) then (bif (eqI y.1 (16 : Int)) then (some (((3 : Int), ()), ())) else bif (eqI y.1 (20 : Int)) then (bif (eqI y.1 (20 : Int)) then (some (((6 : Int), ()), ())) else some (((2 : Int), ()), ())) else bif (eqI y.1 (21 : Int)) then (bif (eqI y.1 (21 : Int)) then (some (((6 : Int), ()), ())) else some (((2 : Int), ()), ())) else bif (eqI y.1 (24 : Int)) then (some (((6 : Int), ()), ())) else some (((2 : Int), ()), ())) else bif (eqI y.1 (17 : Int)) then (bif (eqI y.1 (17 : Int)) then (some (((3 : Int), ()), ())) else bif (eqI y.1 (20 : Int)) then (bif (eqI y.1 (20 : Int)) then (some (((6 : Int), ()), ())) else some (((2 : Int), ()), ())) else bif (eqI y.1 (21 : Int)) then (bif (eqI y.1 (21 : Int)) then (some (((6 : Int), ()), ())) else some (((2 : Int), ()), ())) else bif (eqI y.1 (24 : Int)) then (some (((6 : Int), ()), ())) else some (((2 : Int), ()), ())) else bif (eqI y.1 (18 : Int)) then (bif (eqI y.1 (18 : Int)) then (some (((3 : Int), ()), ())) else bif (eqI y.1 (20 : Int)) then (bif (eqI y.1 (20 : Int)) then (some (((6 : Int), ()), ())) else some (((2 : Int), ()), ())) else bif (eqI y.1 (21 : Int)) then (bif (eqI y.1 (21 : Int)) then (some (((6 : Int), ()), ())) else some (((2 : Int), ()), ())) else bif (eqI y.1 (24 : Int)) then (some (((6 : Int), ()), ())) else some (((2 : Int), ()), ())) else bif (eqI y.1 (19 : Int)) then (bif (eqI y.1 (19 : Int)) then (some (((3 : Int), ()), ())) else bif (eqI y.1 (20 : Int)) then (bif (eqI y.1 (20 : Int)) then (some (((6 : Int), ()), ())) else some (((2 : Int), ()), ())) else bif (eqI y.1 (21 : Int)) then (bif (eqI y.1 (21 : Int)) then (some (((6 : Int), ()), ())) else some (((2 : Int), ()), ())) else bif (eqI y.1 (24 : Int)) then (some (((6 : Int), ()), ())) else some (((2 : Int), ()), ())) else bif (eqI y.1 (22 : Int)) then (some (((3 : Int), ()), ())) else bif (eqI y.1 (20 : Int)) then (bif (eqI y.1 (20 : Int)) then (some (((6 : Int), ()), ())) else some (((2 : Int), ()), ())) else bif (eqI y.1 (21 : Int)) then (bif (eqI y.1 (21 : Int)) then (some (((6 : Int), ()), ())) else some (((2 : Int), ()), ())) else bif (eqI y.1 (24 : Int)) then (some (((6 : Int), ()), ())) else some (((2 : Int), ()), ()); bif (eqI y.1 (2 : Int)) then (bif (eqI y.1 (2 : Int)) then (some (((4 : Int), ()), ())) else X0) else bif (eqI y.1 (3 : Int)) then (bif (eqI y.1 (3 : Int)) then (some (((4 : Int), ()), ())) else X0) else bif (eqI y.1 (14 : Int)) then (bif (eqI y.1 (14 : Int)) then (some (((4 : Int), ()), ())) else X0) else bif (eqI y.1 (23 : Int)) then (bif (eqI y.1 (23 : Int)) then (some (((4 : Int), ()), ())) else X0) else bif (eqI y.1 (29 : Int)) then (some (((4 : Int), ()), ())) else X0
noncomputable def E181  := mkE []
theorem s181   (y) : tevF (E181  ) Tryz.f181 i181 o181 y = m181   y := by kernel_rfl
noncomputable def r181 : F181 := m181  
theorem k181 : CK Tryz.prog (g181 r181) := fn0 (s181 ) (fnsL_ok trivial) rfl mixed (by kernel_rfl) (by kernel_rfl) (by kernel_rfl)
@[reducible] def i296 : List Ty := [.p q7, .p q8, .v (.int .i64)]
@[reducible] def o296 : List Ty := []
abbrev R296 := Option (PTup o296 × BTup i296)
abbrev F296 := PTup i296 → R296
abbrev g296 (c : F296) : Nat × Tev.Fn := (296, ⟨i296, o296, c, .nor⟩)
noncomputable def m296 (c294 : F294)  (y : PTup i296) : Option (PTup o296 × BTup i296) :=
  bif (neI (lenI y.1.1) (512 : Int)) then (some ((), (y.1, (y.2.1, ()))))
  else (c294 (y.2.1.2.2.1, ())).bind fun r0 =>
  (c294 y.2.2).bind fun r1 =>
  bif (leI (0 : Int) (wI ((256 : Int) + r0.1.1))) then (bif (ltI (wI ((256 : Int) + r0.1.1)) (lenI y.1.1)) then ((c294 ((wI (y.2.1.2.2.1 - (1 : Int))), ())).bind fun r2 =>
    some ((), (((List.set y.1.1 (Int.toNat (wI ((256 : Int) + r0.1.1))) r1.1.1), y.1.2), ((y.2.1.1, (y.2.1.2.1, (r2.1.1, y.2.1.2.2.2))), ()))))
   else none)
  else none
noncomputable def E296 (c294 : F294) := mkE [g294 c294]
theorem s296 (c294 : F294)  (y) : tevF (E296 c294 ) Tryz.f296 i296 o296 y = m296 c294  y := by kernel_rfl
noncomputable def r296 : F296 := m296 r294 
theorem k296 : CK Tryz.prog (g296 r296) := fn0 (s296 r294) (fnsL_ok ⟨k294, trivial⟩) rfl mixed (by kernel_rfl) (by kernel_rfl) (by kernel_rfl)
@[reducible] def i295 : List Ty := [.p q7, .p q8]
@[reducible] def o295 : List Ty := []
abbrev R295 := Option (PTup o295 × BTup i295)
abbrev F295 := PTup i295 → R295
abbrev g295 (c : F295) : Nat × Tev.Fn := (295, ⟨i295, o295, c, .nor⟩)
noncomputable def m295 (c296 : F296)  (y : PTup i295) : Option (PTup o295 × BTup i295) :=
  (c296 (y.1, (y.2.1, ((Int.fdiv y.2.1.2.2.2.1 ((2 : Int) ^ (Min.min (Int.toNat (8 : Int)) (64 : Nat)))), ())))).bind fun r0 =>
  (c296 (r0.2.1, (r0.2.2.1, (r0.2.2.1.2.2.2.1, ())))).bind fun r1 =>
  some ((), (r1.2.1, (r1.2.2.1, ())))
noncomputable def E295 (c296 : F296) := mkE [g296 c296]
theorem s295 (c296 : F296)  (y) : tevF (E295 c296 ) Tryz.f295 i295 o295 y = m295 c296  y := by kernel_rfl
noncomputable def r295 : F295 := m295 r296 
theorem k295 : CK Tryz.prog (g295 r295) := fn0 (s295 r296) (fnsL_ok ⟨k296, trivial⟩) rfl mixed (by kernel_rfl) (by kernel_rfl) (by kernel_rfl)
@[reducible] def i115 : List Ty := [.v (.bool)]
@[reducible] def o115 : List Ty := [.v (.int .i64)]
abbrev R115 := Option (PTup o115 × BTup i115)
abbrev F115 := PTup i115 → R115
abbrev g115 (c : F115) : Nat × Tev.Fn := (115, ⟨i115, o115, c, .nor⟩)
noncomputable def m115   (y : PTup i115) : Option (PTup o115 × BTup i115) :=
  bif y.1 then (some (((1 : Int), ()), ()))
  else some (((0 : Int), ()), ())
noncomputable def E115  := mkE []
theorem s115   (y) : tevF (E115  ) Tryz.f115 i115 o115 y = m115   y := by kernel_rfl
noncomputable def r115 : F115 := m115  
theorem k115 : CK Tryz.prog (g115 r115) := fn0 (s115 ) (fnsL_ok trivial) rfl mixed (by kernel_rfl) (by kernel_rfl) (by kernel_rfl)
@[reducible] def i297 : List Ty := [.a q8]
@[reducible] def o297 : List Ty := [.v (.int .i64)]
abbrev R297 := Option (PTup o297 × BTup i297)
abbrev F297 := PTup i297 → R297
abbrev g297 (c : F297) : Nat × Tev.Fn := (297, ⟨i297, o297, c, .nor⟩)
noncomputable def m297 (c115 : F115)  (y : PTup i297) : Option (PTup o297 × BTup i297) :=
  (c115 (y.1.2.2.2.2.2.2.1, ())).bind fun r0 =>
  (c115 (y.1.2.2.2.2.1, ())).bind fun r1 =>
  (c115 y.1.2.2.2.2.2.2.2).bind fun r2 =>
  (c115 (y.1.2.2.2.2.2.1, ())).bind fun r3 =>
  some (((bOr Go.IntKind.i64 (bOr Go.IntKind.i64 (bOr Go.IntKind.i64 (wI ((1 : Int) * r0.1.1)) (wI ((2 : Int) * r1.1.1))) (wI ((4 : Int) * r2.1.1))) (wI ((128 : Int) * r3.1.1))), ()), ())
noncomputable def E297 (c115 : F115) := mkE [g115 c115]
theorem s297 (c115 : F115)  (y) : tevF (E297 c115 ) Tryz.f297 i297 o297 y = m297 c115  y := by kernel_rfl
noncomputable def r297 : F297 := m297 r115 
theorem k297 : CK Tryz.prog (g297 r297) := fn0 (s297 r115) (fnsL_ok ⟨k115, trivial⟩) rfl mixed (by kernel_rfl) (by kernel_rfl) (by kernel_rfl)
@[reducible] def i250 : List Ty := [.p q7, .p q8, .v (.int .i64)]
@[reducible] def o250 : List Ty := []
abbrev R250 := Option (PTup o250 × BTup i250)
abbrev F250 := PTup i250 → R250
abbrev g250 (c : F250) : Nat × Tev.Fn := (250, ⟨i250, o250, c, .nor⟩)
noncomputable def m250 (c296 : F296) (c295 : F295) (c297 : F297)  (y : PTup i250) : Option (PTup o250 × BTup i250) :=
  (c295 (y.1, (y.2.1, ()))).bind fun r0 =>
  (c297 (r0.2.2.1, ())).bind fun r1 =>
  (c296 (r0.2.1, (r0.2.2.1, r1.1))).bind fun r2 =>
  some ((), (r2.2.1, ((r2.2.2.1.1, (r2.2.2.1.2.1, (r2.2.2.1.2.2.1, (y.2.2.1, (r2.2.2.1.2.2.2.2.1, (r2.2.2.1.2.2.2.2.2.1, (r2.2.2.1.2.2.2.2.2.2.1, (true, ())))))))), ())))
noncomputable def E250 (c296 : F296) (c295 : F295) (c297 : F297) := mkE [g296 c296, g295 c295, g297 c297]
theorem s250 (c296 : F296) (c295 : F295) (c297 : F297)  (y) : tevF (E250 c296 c295 c297 ) Tryz.f250 i250 o250 y = m250 c296 c295 c297  y := by kernel_rfl
noncomputable def r250 : F250 := m250 r296 r295 r297 
theorem k250 : CK Tryz.prog (g250 r250) := fn0 (s250 r296 r295 r297) (fnsL_ok ⟨k296, k295, k297, trivial⟩) rfl mixed (by kernel_rfl) (by kernel_rfl) (by kernel_rfl)
@[reducible] def i182 : List Ty := [.p [.sl false .n, .sl false .i, .sl true .i, .int .i64, .int .i64, .int .i64, .int .i64, .int .i64, .bool, .bool, .bool, .bool, .int .i64, .int .i64, .int .i64, .int .i64, .int .i64, .bool, .sl false .i, .sl false .i, .int .i64, .int .i64, .int .i64, .int .i64, .int .i64, .bool, .bool, .bool, .int .i64, .bool, .int .i64, .sl false .n, .sl false .i, .sl false .i], .v (.int .i64)]
@[reducible] def o182 : List Ty := []
abbrev R182 := Option (PTup o182 × BTup i182)
abbrev F182 := PTup i182 → R182
abbrev g182 (c : F182) : Nat × Tev.Fn := (182, ⟨i182, o182, c, .nor⟩)
noncomputable def m182 (c250 : F250) (c249 : F249) (c247 : F247)  (y : PTup i182) : Option (PTup o182 × BTup i182) :=
  (c247 ((y.1.1, ()), ((y.1.2.2.1, (y.1.2.2.2.1, ())), y.2))).bind fun r0 =>
  (c247 ((y.1.1, ()), ((y.1.2.2.1, (y.1.2.2.2.1, ())), ((wI (y.2.1 + (1 : Int))), ())))).bind fun r1 =>
  (c249 (r0.1.1, r1.1)).bind fun r2 =>
  (c250 ((y.1.2.2.1, (y.1.2.2.2.1, ())), ((y.1.2.2.2.2.1, (y.1.2.2.2.2.2.1, (y.1.2.2.2.2.2.2.1, (y.1.2.2.2.2.2.2.2.1, (y.1.2.2.2.2.2.2.2.2.1, (y.1.2.2.2.2.2.2.2.2.2.1, (y.1.2.2.2.2.2.2.2.2.2.2.1, (y.1.2.2.2.2.2.2.2.2.2.2.2.1, ())))))))), r2.1))).bind fun r3 =>
  some ((), ((y.1.1, (y.1.2.1, (r3.2.1.1, (r3.2.1.2.1, (r3.2.2.1.1, (r3.2.2.1.2.1, (r3.2.2.1.2.2.1, (r3.2.2.1.2.2.2.1, (r3.2.2.1.2.2.2.2.1, (r3.2.2.1.2.2.2.2.2.1, (r3.2.2.1.2.2.2.2.2.2.1, (r3.2.2.1.2.2.2.2.2.2.2.1, y.1.2.2.2.2.2.2.2.2.2.2.2.2)))))))))))), ()))
noncomputable def E182 (c250 : F250) (c249 : F249) (c247 : F247) := mkE [g250 c250, g249 c249, g247 c247]
theorem s182 (c250 : F250) (c249 : F249) (c247 : F247)  (y) : tevF (E182 c250 c249 c247 ) Tryz.f182 i182 o182 y = m182 c250 c249 c247  y := by kernel_rfl
noncomputable def r182 : F182 := m182 r250 r249 r247 
theorem k182 : CK Tryz.prog (g182 r182) := fn0 (s182 r250 r249 r247) (fnsL_ok ⟨k250, k249, k247, trivial⟩) rfl mixed (by kernel_rfl) (by kernel_rfl) (by kernel_rfl)
@[reducible] def i298 : List Ty := [.v (.int .i64)]
@[reducible] def o298 : List Ty := [.v (.int .i64)]
abbrev R298 := Option (PTup o298 × BTup i298)
abbrev F298 := PTup i298 → R298
abbrev g298 (c : F298) : Nat × Tev.Fn := (298, ⟨i298, o298, c, .nor⟩)
noncomputable def m298   (y : PTup i298) : Option (PTup o298 × BTup i298) :=
  let X0 : R298 := bif (eqI y.1 (3 : Int)) then (bif (eqI y.1 (3 : Int)) then (some (((2 : Int), ()), ())) else some (((0 : Int), ()), ())) else bif (eqI y.1 (15 : Int)) then (some (((2 : Int), ()), ())) else some (((0 : Int), ()), ()); bif (eqI y.1 (2 : Int)) then (bif (eqI y.1 (2 : Int)) then (some (((1 : Int), ()), ())) else X0) else bif (eqI y.1 (14 : Int)) then (bif (eqI y.1 (14 : Int)) then (some (((1 : Int), ()), ())) else X0) else bif (eqI y.1 (29 : Int)) then (some (((1 : Int), ()), ())) else X0
noncomputable def E298  := mkE []
theorem s298   (y) : tevF (E298  ) Tryz.f298 i298 o298 y = m298   y := by kernel_rfl
noncomputable def r298 : F298 := m298  
theorem k298 : CK Tryz.prog (g298 r298) := fn0 (s298 ) (fnsL_ok trivial) rfl mixed (by kernel_rfl) (by kernel_rfl) (by kernel_rfl)
@[reducible] def i251 : List Ty := [.a q15, .a q8]
@[reducible] def o251 : List Ty := [.v (.int .i64), .v (.int .i64), .v (.int .i64)]
abbrev R251 := Option (PTup o251 × BTup i251)
abbrev F251 := PTup i251 → R251
abbrev g251 (c : F251) : Nat × Tev.Fn := (251, ⟨i251, o251, c, .nor⟩)
noncomputable def m251 (c299 : F299) (c294 : F294) (c298 : F298)  (y : PTup i251) : Option (PTup o251 × BTup i251) :=
  (c298 (y.1.1, ())).bind fun r0 => let X0 : R251 := (c299 ((wI (y.1.2.1 + y.2.1.2.1)), ())).bind fun r2 => bif (eqI r0.1.1 (1 : Int)) then (some ((r0.1.1, (r2.1.1, ((0 : Int), ()))), ())) else bif (eqI r0.1.1 (2 : Int)) then ((c294 (y.2.1.1, ())).bind fun r3 => some ((r0.1.1, (r2.1.1, r3.1)), ())) else some (((0 : Int), ((0 : Int), ((0 : Int), ()))), ()); (c299 y.1.2).bind fun r1 => bif (eqI y.1.1 (14 : Int)) then X0 else bif (eqI y.1.1 (15 : Int)) then X0 else bif (eqI r0.1.1 (1 : Int)) then (some ((r0.1.1, (r1.1.1, ((0 : Int), ()))), ())) else bif (eqI r0.1.1 (2 : Int)) then ((c294 (y.2.1.1, ())).bind fun r2 => some ((r0.1.1, (r1.1.1, r2.1)), ())) else some (((0 : Int), ((0 : Int), ((0 : Int), ()))), ())
noncomputable def E251 (c299 : F299) (c294 : F294) (c298 : F298) := mkE [g299 c299, g294 c294, g298 c298]
theorem s251 (c299 : F299) (c294 : F294) (c298 : F298)  (y) : tevF (E251 c299 c294 c298 ) Tryz.f251 i251 o251 y = m251 c299 c294 c298  y := by kernel_rfl
noncomputable def r251 : F251 := m251 r299 r294 r298 
theorem k251 : CK Tryz.prog (g251 r251) := fn0 (s251 r299 r294 r298) (fnsL_ok ⟨k299, k294, k298, trivial⟩) rfl mixed (by kernel_rfl) (by kernel_rfl) (by kernel_rfl)
@[reducible] def i300 : List Ty := [.p q2, .v (.int .i64)]
@[reducible] def o300 : List Ty := [.v (.int .i64)]
abbrev R300 := Option (PTup o300 × BTup i300)
abbrev F300 := PTup i300 → R300
abbrev g300 (c : F300) : Nat × Tev.Fn := (300, ⟨i300, o300, c, .nor⟩)
noncomputable def m300 (c316 : F316) (c115 : F115)  (y : PTup i300) : Option (PTup o300 × BTup i300) :=
  bif (eqI y.2.1 (2 : Int)) then ((c115 (y.1.2.2.2.2.2.1, ())).bind fun r0 =>
   some (((wI ((128 : Int) * r0.1.1)), ()), ((y.1.1, (y.1.2.1, (y.1.2.2.1, (y.1.2.2.2.1, (y.1.2.2.2.2.1, (false, y.1.2.2.2.2.2.2)))))), ())))
  else bif (eqI y.2.1 (4 : Int)) then (bif (leI (0 : Int) y.1.2.2.2.1) then (bif (ltI y.1.2.2.2.1 (lenI y.1.2.2.2.2.2.2.1)) then ((c316 (y.1, ())).bind fun r0 =>
     some (((rdE .i y.1.2.2.2.2.2.2.1 y.1.2.2.2.1), ()), ((r0.2.1.1, (r0.2.1.2.1, (r0.2.1.2.2.1, (r0.2.1.2.2.2.1, (r0.2.1.2.2.2.2.1, (r0.2.1.2.2.2.2.2.1, y.1.2.2.2.2.2.2)))))), ())))
    else none)
   else none)
  else some (((0 : Int), ()), (y.1, ()))
noncomputable def E300 (c316 : F316) (c115 : F115) := mkE [g316 c316, g115 c115]
theorem s300 (c316 : F316) (c115 : F115)  (y) : tevF (E300 c316 c115 ) Tryz.f300 i300 o300 y = m300 c316 c115  y := by kernel_rfl
noncomputable def r300 : F300 := m300 r316 r115 
theorem k300 : CK Tryz.prog (g300 r300) := fn0 (s300 r316 r115) (fnsL_ok ⟨k316, k115, trivial⟩) rfl mixed (by kernel_rfl) (by kernel_rfl) (by kernel_rfl)
@[reducible] def i301 : List Ty := [.a q12, .v (.int .i64)]
@[reducible] def o301 : List Ty := [.a q12, .v (.int .i64)]
abbrev R301 := Option (PTup o301 × BTup i301)
abbrev F301 := PTup i301 → R301
abbrev g301 (c : F301) : Nat × Tev.Fn := (301, ⟨i301, o301, c, .nor⟩)
noncomputable def m301 (c175 : F175) (c115 : F115)  (y : PTup i301) : Option (PTup o301 × BTup i301) :=
  bif (neI y.2.1 (2 : Int)) then (some ((y.1, ((0 : Int), ())), ()))
  else (c175 (y.1, ())).bind fun r0 =>
  bif (!r0.1.1) then (some ((y.1, ((0 : Int), ())), ()))
  else (c115 y.1.2.2.2.2.2.2).bind fun r1 =>
  (c115 ((ltI (0 : Int) y.1.2.2.2.2.1), ())).bind fun r2 =>
  some (((y.1.1, (y.1.2.1, (y.1.2.2.1, (y.1.2.2.2.1, (y.1.2.2.2.2.1, (y.1.2.2.2.2.2.1, (false, ()))))))), ((wI ((wI ((128 : Int) * r1.1.1)) + r2.1.1)), ())), ())
noncomputable def E301 (c175 : F175) (c115 : F115) := mkE [g175 c175, g115 c115]
theorem s301 (c175 : F175) (c115 : F115)  (y) : tevF (E301 c175 c115 ) Tryz.f301 i301 o301 y = m301 c175 c115  y := by kernel_rfl
noncomputable def r301 : F301 := m301 r175 r115 
theorem k301 : CK Tryz.prog (g301 r301) := fn0 (s301 r175 r115) (fnsL_ok ⟨k175, k115, trivial⟩) rfl mixed (by kernel_rfl) (by kernel_rfl) (by kernel_rfl)
@[reducible] def i328 : List Ty := [.v (.int .i64)]
@[reducible] def o328 : List Ty := [.v (.int .i64)]
abbrev R328 := Option (PTup o328 × BTup i328)
abbrev F328 := PTup i328 → R328
abbrev g328 (c : F328) : Nat × Tev.Fn := (328, ⟨i328, o328, c, .nor⟩)
noncomputable def m328   (y : PTup i328) : Option (PTup o328 × BTup i328) :=
  some (((wI (Int.tdiv (mxI y.1 (0 : Int)) (64 : Int))), ()), ())
noncomputable def E328  := mkE []
theorem s328   (y) : tevF (E328  ) Tryz.f328 i328 o328 y = m328   y := by kernel_rfl
noncomputable def r328 : F328 := m328  
theorem k328 : CK Tryz.prog (g328 r328) := fn0 (s328 ) (fnsL_ok trivial) rfl mixed (by kernel_rfl) (by kernel_rfl) (by kernel_rfl)
@[reducible] def i317 : List Ty := [.v (.sl false .i), .v (.int .i64)]
@[reducible] def o317 : List Ty := [.v (.int .i64)]
abbrev R317 := Option (PTup o317 × BTup i317)
abbrev F317 := PTup i317 → R317
abbrev g317 (c : F317) : Nat × Tev.Fn := (317, ⟨i317, o317, c, .nor⟩)
noncomputable def m317 (c328 : F328) (c152 : F152)  (y : PTup i317) : Option (PTup o317 × BTup i317) :=
  (c152 (y.1, ())).bind fun r0 =>
  bif (!r0.1.1) then (some (((0 : Int), ()), ()))
  else bif (eqI (lenI y.1) (0 : Int)) then (some (((0 : Int), ()), ()))
  else (c328 y.2).bind fun r1 =>
  bif (neI (lenI y.1) (0 : Int)) then (bif (leI (0 : Int) (Int.tmod r1.1.1 (lenI y.1))) then (bif (ltI (Int.tmod r1.1.1 (lenI y.1)) (lenI y.1)) then (some (((rdE .i y.1 (Int.tmod r1.1.1 (lenI y.1))), ()), ()))
    else none)
   else none)
  else none
noncomputable def E317 (c328 : F328) (c152 : F152) := mkE [g328 c328, g152 c152]
theorem s317 (c328 : F328) (c152 : F152)  (y) : tevF (E317 c328 c152 ) Tryz.f317 i317 o317 y = m317 c328 c152  y := by kernel_rfl
noncomputable def r317 : F317 := m317 r328 r152 
theorem k317 : CK Tryz.prog (g317 r317) := fn0 (s317 r328 r152) (fnsL_ok ⟨k328, k152, trivial⟩) rfl mixed (by kernel_rfl) (by kernel_rfl) (by kernel_rfl)
@[reducible] def i302 : List Ty := [.a q9, .v (.sl false .i), .v (.int .i64)]
@[reducible] def o302 : List Ty := [.a q9, .v (.int .i64)]
abbrev R302 := Option (PTup o302 × BTup i302)
abbrev F302 := PTup i302 → R302
abbrev g302 (c : F302) : Nat × Tev.Fn := (302, ⟨i302, o302, c, .nor⟩)
noncomputable def m302 (c317 : F317)  (y : PTup i302) : Option (PTup o302 × BTup i302) :=
  bif y.1.1 then ((c317 y.2).bind fun r0 =>
   some (((true, r0.1), ((bAnd Go.IntKind.i64 r0.1.1 (1 : Int)), ())), ()))
  else some (((false, ((Int.fdiv y.1.2.1 ((2 : Int) ^ (Min.min (Int.toNat (1 : Int)) (64 : Nat)))), ())), ((bAnd Go.IntKind.i64 y.1.2.1 (1 : Int)), ())), ())
noncomputable def E302 (c317 : F317) := mkE [g317 c317]
theorem s302 (c317 : F317)  (y) : tevF (E302 c317 ) Tryz.f302 i302 o302 y = m302 c317  y := by kernel_rfl
noncomputable def r302 : F302 := m302 r317 
theorem k302 : CK Tryz.prog (g302 r302) := fn0 (s302 r317) (fnsL_ok ⟨k317, trivial⟩) rfl mixed (by kernel_rfl) (by kernel_rfl) (by kernel_rfl)
@[reducible] def i252 : List Ty := [.p [.sl false .n, .sl false .i, .sl false .i, .int .i64, .int .i64, .int .i64, .int .i64, .int .i64, .bool, .bool, .bool, .bool, .int .i64, .int .i64, .int .i64, .int .i64, .int .i64, .bool, .sl false .i, .sl false .i, .int .i64, .int .i64, .int .i64, .int .i64, .int .i64, .bool, .bool, .bool, .int .i64, .bool, .int .i64, .sl false .n, .sl false .i, .sl true .i], .v (.int .i64)]
@[reducible] def o252 : List Ty := [.v (.int .i64)]
abbrev R252 := Option (PTup o252 × BTup i252)
abbrev F252 := PTup i252 → R252
abbrev g252 (c : F252) : Nat × Tev.Fn := (252, ⟨i252, o252, c, .nor⟩)
noncomputable def m252 (c300 : F300) (c301 : F301) (c302 : F302) (c277 : F277) (c247 : F247)  (y : PTup i252) : Option (PTup o252 × BTup i252) :=
  let a0 := y.1; let a1 := a0.2; let a2 := a1.2; let a3 := a2.2; let a4 := a3.2; let a5 := a4.2; let a6 := a5.2; let a7 := a6.2; let a8 := a7.2; let a9 := a8.2; let a10 := a9.2; let a11 := a10.2; let a12 := a11.2; let a13 := a12.2; let a14 := a13.2; let a15 := a14.2; let a16 := a15.2; let a17 := a16.2; let a18 := a17.2; let a19 := a18.2; let a20 := a19.2; let a21 := a20.2; let a22 := a21.2; let a23 := a22.2; let a24 := a23.2; let a25 := a24.2; let a26 := a25.2; let a27 := a26.2; let a28 := a27.2; let a29 := a28.2; let a30 := a29.2; let a31 := a30.2; let a32 := a31.2.2; (c277 y.2).bind fun r0 =>
  bif (eqI r0.1.1 (2 : Int)) then ((c300 ((a12.1, (a13.1, (a14.1, (a15.1, (a16.1, (a17.1, (a18.1, (a19.1, ())))))))), r0.1.2)).bind fun r1 =>
   bif (leN ((List.length a32.1) + (List.length (r1.1.1 :: []))) (E.most .i)) then (some (r1.1, ((a0.1, (a1.1, (a2.1, (a3.1, (a4.1, (a5.1, (a6.1, (a7.1, (a8.1, (a9.1, (a10.1, (a11.1, (r1.2.1.1, (r1.2.1.2.1, (r1.2.1.2.2.1, (r1.2.1.2.2.2.1, (r1.2.1.2.2.2.2.1, (r1.2.1.2.2.2.2.2.1, (a18.1, (a19.1, (a20.1, (a21.1, (a22.1, (a23.1, (a24.1, (a25.1, (a26.1, (a27.1, (a28.1, (a29.1, (a30.1, (a31.1, (a31.2.1, ((a32.1 ++ (r1.1.1 :: [])), ())))))))))))))))))))))))))))))))))), ())))
   else none)
  else bif (eqI r0.1.1 (3 : Int)) then ((c301 ((a20.1, (a21.1, (a22.1, (a23.1, (a24.1, (a25.1, (a26.1, ()))))))), r0.1.2)).bind fun r1 =>
   bif (leN ((List.length a32.1) + (List.length (r1.1.2.1 :: []))) (E.most .i)) then (some (r1.1.2, ((a0.1, (a1.1, (a2.1, (a3.1, (a4.1, (a5.1, (a6.1, (a7.1, (a8.1, (a9.1, (a10.1, (a11.1, (a12.1, (a13.1, (a14.1, (a15.1, (a16.1, (a17.1, (a18.1, (a19.1, (r1.1.1.1, (r1.1.1.2.1, (r1.1.1.2.2.1, (r1.1.1.2.2.2.1, (r1.1.1.2.2.2.2.1, (r1.1.1.2.2.2.2.2.1, (r1.1.1.2.2.2.2.2.2.1, (a27.1, (a28.1, (a29.1, (a30.1, (a31.1, (a31.2.1, ((a32.1 ++ (r1.1.2.1 :: [])), ())))))))))))))))))))))))))))))))))), ())))
   else none)
  else bif (eqI r0.1.1 (4 : Int)) then ((c302 ((a27.1, (a28.1, ())), (a1.1, (a12.1, ())))).bind fun r1 =>
   bif (leN ((List.length a32.1) + (List.length (r1.1.2.1 :: []))) (E.most .i)) then (some (r1.1.2, ((a0.1, (a1.1, (a2.1, (a3.1, (a4.1, (a5.1, (a6.1, (a7.1, (a8.1, (a9.1, (a10.1, (a11.1, (a12.1, (a13.1, (a14.1, (a15.1, (a16.1, (a17.1, (a18.1, (a19.1, (a20.1, (a21.1, (a22.1, (a23.1, (a24.1, (a25.1, (a26.1, (r1.1.1.1, (r1.1.1.2.1, (a29.1, (a30.1, (a31.1, (a31.2.1, ((a32.1 ++ (r1.1.2.1 :: [])), ())))))))))))))))))))))))))))))))))), ())))
   else none)
  else bif (eqI r0.1.1 (7 : Int)) then (some (((0 : Int), ()), (a0, ())))
  else (c247 ((a0.1, ()), ((a2.1, (a3.1, ())), y.2))).bind fun r1 =>
  some (r1.1, (a0, ()))
noncomputable def E252 (c300 : F300) (c301 : F301) (c302 : F302) (c277 : F277) (c247 : F247) := mkE [g300 c300, g301 c301, g302 c302, g277 c277, g247 c247]
theorem s252 (c300 : F300) (c301 : F301) (c302 : F302) (c277 : F277) (c247 : F247)  (y) : tevF (E252 c300 c301 c302 c277 c247 ) Tryz.f252 i252 o252 y = m252 c300 c301 c302 c277 c247  y := by kernel_rfl
noncomputable def r252 : F252 := m252 r300 r301 r302 r277 r247 
theorem k252 : CK Tryz.prog (g252 r252) := fn0 (s252 r300 r301 r302 r277 r247) (fnsL_ok ⟨k300, k301, k302, k277, k247, trivial⟩) rfl mixed (by kernel_rfl) (by kernel_rfl) (by kernel_rfl)
@[reducible] def i303 : List Ty := [.a q9, .v (.sl false .i), .v (.int .i64), .v (.int .i64)]
@[reducible] def o303 : List Ty := [.a q9]
abbrev R303 := Option (PTup o303 × BTup i303)
abbrev F303 := PTup i303 → R303
abbrev g303 (c : F303) : Nat × Tev.Fn := (303, ⟨i303, o303, c, .nor⟩)
noncomputable def m303 (c317 : F317)  (y : PTup i303) : Option (PTup o303 × BTup i303) :=
  bif (eqI (bAnd Go.IntKind.i64 y.2.2.2.1 (1 : Int)) (1 : Int)) then ((c317 (y.2.1, (y.2.2.1, ()))).bind fun r0 =>
   some ((((eqI (bAnd Go.IntKind.i64 y.2.2.2.1 (1 : Int)) (1 : Int)), r0.1), ()), ()))
  else bif y.1.1 then ((c317 (y.2.1, (y.2.2.1, ()))).bind fun r0 =>
   some ((((eqI (bAnd Go.IntKind.i64 y.2.2.2.1 (1 : Int)) (1 : Int)), r0.1), ()), ()))
  else some ((((eqI (bAnd Go.IntKind.i64 y.2.2.2.1 (1 : Int)) (1 : Int)), y.1.2), ()), ())
noncomputable def E303 (c317 : F317) := mkE [g317 c317]
theorem s303 (c317 : F317)  (y) : tevF (E303 c317 ) Tryz.f303 i303 o303 y = m303 c317  y := by kernel_rfl
noncomputable def r303 : F303 := m303 r317 
theorem k303 : CK Tryz.prog (g303 r303) := fn0 (s303 r317) (fnsL_ok ⟨k317, trivial⟩) rfl mixed (by kernel_rfl) (by kernel_rfl) (by kernel_rfl)
@[reducible] def i304 : List Ty := [.p q7, .a q0, .v (.int .i64), .v (.int .i64)]
@[reducible] def o304 : List Ty := []
abbrev R304 := Option (PTup o304 × BTup i304)
abbrev F304 := PTup i304 → R304
abbrev g304 (c : F304) : Nat × Tev.Fn := (304, ⟨i304, o304, c, .nor⟩)
noncomputable def m304 (c294 : F294) (c277 : F277)  (y : PTup i304) : Option (PTup o304 × BTup i304) :=
  let X0 : R304 := (c294 y.2.2.2).bind fun r1 => bif (neI (lenI y.2.1.1) (0 : Int)) then (some ((), ((y.1.1, ((Int.tmod r1.1.1 (lenI y.2.1.1)), ())), ()))) else none; (c277 (y.2.2.1, ())).bind fun r0 => bif (eqI r0.1.1 (1 : Int)) then ((c294 y.2.2.2).bind fun r1 => bif (leI (0 : Int) r0.1.2.1) then (bif (ltI r0.1.2.1 (lenI y.1.1)) then (some ((), (((List.set y.1.1 (Int.toNat r0.1.2.1) r1.1.1), y.1.2), ()))) else none) else none) else bif (eqI r0.1.1 (5 : Int)) then (bif (eqI r0.1.1 (5 : Int)) then X0 else some ((), (y.1, ()))) else bif (eqI r0.1.1 (6 : Int)) then X0 else some ((), (y.1, ()))
noncomputable def E304 (c294 : F294) (c277 : F277) := mkE [g294 c294, g277 c277]
theorem s304 (c294 : F294) (c277 : F277)  (y) : tevF (E304 c294 c277 ) Tryz.f304 i304 o304 y = m304 c294 c277  y := by kernel_rfl
noncomputable def r304 : F304 := m304 r294 r277 
theorem k304 : CK Tryz.prog (g304 r304) := fn0 (s304 r294 r277) (fnsL_ok ⟨k294, k277, trivial⟩) rfl mixed (by kernel_rfl) (by kernel_rfl) (by kernel_rfl)
@[reducible] def i253 : List Ty := [.p [.sl false .n, .sl false .i, .sl true .i, .int .i64, .int .i64, .int .i64, .int .i64, .int .i64, .bool, .bool, .bool, .bool, .int .i64, .int .i64, .int .i64, .int .i64, .int .i64, .bool, .sl true .i, .sl false .i, .int .i64, .int .i64, .int .i64, .int .i64, .int .i64, .bool, .bool, .bool, .int .i64, .bool, .int .i64, .sl false .n, .sl false .i, .sl false .i], .v (.int .i64), .v (.int .i64)]
@[reducible] def o253 : List Ty := []
abbrev R253 := Option (PTup o253 × BTup i253)
abbrev F253 := PTup i253 → R253
abbrev g253 (c : F253) : Nat × Tev.Fn := (253, ⟨i253, o253, c, .nor⟩)
noncomputable def m253 (c304 : F304) (c285 : F285) (c286 : F286) (c303 : F303) (c277 : F277)  (y : PTup i253) : Option (PTup o253 × BTup i253) :=
  let a0 := y.1; let a1 := a0.2; let a2 := a1.2; let a3 := a2.2; let a4 := a3.2; let a5 := a4.2; let a6 := a5.2; let a7 := a6.2; let a8 := a7.2; let a9 := a8.2; let a10 := a9.2; let a11 := a10.2; let a12 := a11.2; let a13 := a12.2; let a14 := a13.2; let a15 := a14.2; let a16 := a15.2; let a17 := a16.2; let a18 := a17.2; let a19 := a18.2; let a20 := a19.2; let a21 := a20.2; let a22 := a21.2; let a23 := a22.2; let a24 := a23.2; let a25 := a24.2.2; let X0 : R253 := (c304 ((a2.1, (a3.1, ())), ((a0.1, ()), y.2))).bind fun r1 => some ((), ((a0.1, (a1.1, (r1.2.1.1, (r1.2.1.2.1, a4)))), ())); (c277 (y.2.1, ())).bind fun r0 => bif (eqI r0.1.1 (2 : Int)) then ((c285 ((a12.1, (a13.1, (a14.1, (a15.1, (a16.1, (a17.1, (a18.1, (a19.1, ())))))))), (r0.1.2.1, y.2.2))).bind fun r1 => some ((), ((a0.1, (a1.1, (a2.1, (a3.1, (a4.1, (a5.1, (a6.1, (a7.1, (a8.1, (a9.1, (a10.1, (a11.1, (r1.2.1.1, (r1.2.1.2.1, (r1.2.1.2.2.1, (r1.2.1.2.2.2.1, (r1.2.1.2.2.2.2.1, (r1.2.1.2.2.2.2.2.1, (r1.2.1.2.2.2.2.2.2.1, a19))))))))))))))))))), ()))) else bif (eqI r0.1.1 (3 : Int)) then ((c286 ((a20.1, (a21.1, (a22.1, (a23.1, (a24.1, (a24.2.1, (a25.1, ()))))))), (r0.1.2.1, y.2.2))).bind fun r1 => some ((), ((a0.1, (a1.1, (a2.1, (a3.1, (a4.1, (a5.1, (a6.1, (a7.1, (a8.1, (a9.1, (a10.1, (a11.1, (a12.1, (a13.1, (a14.1, (a15.1, (a16.1, (a17.1, (a18.1, (a19.1, (r1.1.1.1, (r1.1.1.2.1, (r1.1.1.2.2.1, (r1.1.1.2.2.2.1, (r1.1.1.2.2.2.2.1, (r1.1.1.2.2.2.2.2.1, (r1.1.1.2.2.2.2.2.2.1, a25.2))))))))))))))))))))))))))), ()))) else bif (eqI r0.1.1 (4 : Int)) then ((c303 ((a25.2.1, (a25.2.2.1, ())), (a1.1, (a12.1, y.2.2)))).bind fun r1 => some ((), ((a0.1, (a1.1, (a2.1, (a3.1, (a4.1, (a5.1, (a6.1, (a7.1, (a8.1, (a9.1, (a10.1, (a11.1, (a12.1, (a13.1, (a14.1, (a15.1, (a16.1, (a17.1, (a18.1, (a19.1, (a20.1, (a21.1, (a22.1, (a23.1, (a24.1, (a24.2.1, (a25.1, (r1.1.1.1, (r1.1.1.2.1, a25.2.2.2))))))))))))))))))))))))))))), ()))) else bif (eqI r0.1.1 (1 : Int)) then (bif (eqI r0.1.1 (1 : Int)) then X0 else some ((), (a0, ()))) else bif (eqI r0.1.1 (5 : Int)) then (bif (eqI r0.1.1 (5 : Int)) then X0 else some ((), (a0, ()))) else bif (eqI r0.1.1 (6 : Int)) then X0 else some ((), (a0, ()))
noncomputable def E253 (c304 : F304) (c285 : F285) (c286 : F286) (c303 : F303) (c277 : F277) := mkE [g304 c304, g285 c285, g286 c286, g303 c303, g277 c277]
theorem s253 (c304 : F304) (c285 : F285) (c286 : F286) (c303 : F303) (c277 : F277)  (y) : tevF (E253 c304 c285 c286 c303 c277 ) Tryz.f253 i253 o253 y = m253 c304 c285 c286 c303 c277  y := by kernel_rfl
noncomputable def r253 : F253 := m253 r304 r285 r286 r303 r277 
theorem k253 : CK Tryz.prog (g253 r253) := fn0 (s253 r304 r285 r286 r303 r277) (fnsL_ok ⟨k304, k285, k286, k303, k277, trivial⟩) rfl mixed (by kernel_rfl) (by kernel_rfl) (by kernel_rfl)
@[reducible] def i321 : List Ty := [.v (.int .i64)]
@[reducible] def o321 : List Ty := [.v (.bool), .v (.bool)]
abbrev R321 := Option (PTup o321 × BTup i321)
abbrev F321 := PTup i321 → R321
abbrev g321 (c : F321) : Nat × Tev.Fn := (321, ⟨i321, o321, c, .nor⟩)
noncomputable def m321 (c294 : F294)  (y : PTup i321) : Option (PTup o321 × BTup i321) :=
  (c294 y).bind fun r0 =>
  (c294 y).bind fun r1 =>
  some (((eqI r0.1.1 (0 : Int)), ((ltI (127 : Int) r1.1.1), ())), ())
noncomputable def E321 (c294 : F294) := mkE [g294 c294]
theorem s321 (c294 : F294)  (y) : tevF (E321 c294 ) Tryz.f321 i321 o321 y = m321 c294  y := by kernel_rfl
noncomputable def r321 : F321 := m321 r294 
theorem k321 : CK Tryz.prog (g321 r321) := fn0 (s321 r294) (fnsL_ok ⟨k294, trivial⟩) rfl mixed (by kernel_rfl) (by kernel_rfl) (by kernel_rfl)
@[reducible] def i318 : List Ty := [.a q8, .v (.int .i64)]
@[reducible] def o318 : List Ty := [.a q8]
abbrev R318 := Option (PTup o318 × BTup i318)
abbrev F318 := PTup i318 → R318
abbrev g318 (c : F318) : Nat × Tev.Fn := (318, ⟨i318, o318, c, .nor⟩)
noncomputable def m318 (c294 : F294) (c321 : F321)  (y : PTup i318) : Option (PTup o318 × BTup i318) :=
  (c294 y.2).bind fun r0 =>
  (c321 y.2).bind fun r1 =>
  some (((r0.1.1, (y.1.2.1, (y.1.2.2.1, (y.1.2.2.2.1, (r1.1.1, (r1.1.2.1, y.1.2.2.2.2.2.2)))))), ()), ())
noncomputable def E318 (c294 : F294) (c321 : F321) := mkE [g294 c294, g321 c321]
theorem s318 (c294 : F294) (c321 : F321)  (y) : tevF (E318 c294 c321 ) Tryz.f318 i318 o318 y = m318 c294 c321  y := by kernel_rfl
noncomputable def r318 : F318 := m318 r294 r321 
theorem k318 : CK Tryz.prog (g318 r318) := fn0 (s318 r294 r321) (fnsL_ok ⟨k294, k321, trivial⟩) rfl mixed (by kernel_rfl) (by kernel_rfl) (by kernel_rfl)
@[reducible] def i319 : List Ty := [.v (.int .i64), .v (.int .i64), .v (.bool)]
@[reducible] def o319 : List Ty := [.v (.int .i64), .v (.bool)]
abbrev R319 := Option (PTup o319 × BTup i319)
abbrev F319 := PTup i319 → R319
abbrev g319 (c : F319) : Nat × Tev.Fn := (319, ⟨i319, o319, c, .nor⟩)
noncomputable def m319 (c294 : F294) (c115 : F115)  (y : PTup i319) : Option (PTup o319 × BTup i319) :=
  (c294 (y.1, ())).bind fun r0 =>
  (c294 (y.2.1, ())).bind fun r1 =>
  (c115 y.2.2).bind fun r2 =>
  (c294 ((wI ((wI (r0.1.1 + r1.1.1)) + r2.1.1)), ())).bind fun r3 =>
  some ((r3.1.1, ((ltI (255 : Int) (wI ((wI (r0.1.1 + r1.1.1)) + r2.1.1))), ())), ())
noncomputable def E319 (c294 : F294) (c115 : F115) := mkE [g294 c294, g115 c115]
theorem s319 (c294 : F294) (c115 : F115)  (y) : tevF (E319 c294 c115 ) Tryz.f319 i319 o319 y = m319 c294 c115  y := by kernel_rfl
noncomputable def r319 : F319 := m319 r294 r115 
theorem k319 : CK Tryz.prog (g319 r319) := fn0 (s319 r294 r115) (fnsL_ok ⟨k294, k115, trivial⟩) rfl mixed (by kernel_rfl) (by kernel_rfl) (by kernel_rfl)
@[reducible] def i320 : List Ty := [.v (.int .i64), .v (.int .i64), .v (.bool)]
@[reducible] def o320 : List Ty := [.v (.int .i64), .v (.bool)]
abbrev R320 := Option (PTup o320 × BTup i320)
abbrev F320 := PTup i320 → R320
abbrev g320 (c : F320) : Nat × Tev.Fn := (320, ⟨i320, o320, c, .nor⟩)
noncomputable def m320 (c294 : F294) (c115 : F115)  (y : PTup i320) : Option (PTup o320 × BTup i320) :=
  (c294 (y.1, ())).bind fun r0 =>
  (c294 (y.2.1, ())).bind fun r1 =>
  (c115 ((!y.2.2.1), ())).bind fun r2 =>
  (c294 ((wI ((wI (r0.1.1 - r1.1.1)) - r2.1.1)), ())).bind fun r3 =>
  some ((r3.1.1, ((leI (0 : Int) (wI ((wI (r0.1.1 - r1.1.1)) - r2.1.1))), ())), ())
noncomputable def E320 (c294 : F294) (c115 : F115) := mkE [g294 c294, g115 c115]
theorem s320 (c294 : F294) (c115 : F115)  (y) : tevF (E320 c294 c115 ) Tryz.f320 i320 o320 y = m320 c294 c115  y := by kernel_rfl
noncomputable def r320 : F320 := m320 r294 r115 
theorem k320 : CK Tryz.prog (g320 r320) := fn0 (s320 r294 r115) (fnsL_ok ⟨k294, k115, trivial⟩) rfl mixed (by kernel_rfl) (by kernel_rfl) (by kernel_rfl)
@[reducible] def i305 : List Ty := [.p q8, .a q15, .v (.int .i64)]
@[reducible] def o305 : List Ty := [.v (.bool)]
abbrev R305 := Option (PTup o305 × BTup i305)
abbrev F305 := PTup i305 → R305
abbrev g305 (c : F305) : Nat × Tev.Fn := (305, ⟨i305, o305, c, .nor⟩)
noncomputable def m305 (c319 : F319) (c318 : F318) (c321 : F321) (c320 : F320)  (y : PTup i305) : Option (PTup o305 × BTup i305) :=
  let a0 := y.1; let a1 := y.2; let a2 := a0.1; let a3 := a0.2; let a4 := a1.1; let a5 := a3.2; let a6 := a4.1; let a7 := a4.2; let a8 := a5.2; let a9 := a7.1; let a10 := a8.2.2; let a11 := a10.2.1; let X0 : R305 := bif (eqI a6 (4 : Int)) then (bif (eqI a6 (4 : Int)) then (bif (eqI a6 (29 : Int)) then ((c319 (a2, (a1.2.1, (a11, ())))).bind fun r0 => (c318 (a0, (r0.1.1, ()))).bind fun r1 => some ((true, ()), ((r1.1.1.1, (r1.1.1.2.1, (r1.1.1.2.2.1, (r1.1.1.2.2.2.1, (r1.1.1.2.2.2.2.1, (r1.1.1.2.2.2.2.2.1, (r0.1.2.1, r1.1.1.2.2.2.2.2.2.2))))))), ()))) else (c319 (a2, (a9, (a11, ())))).bind fun r0 => (c318 (a0, (r0.1.1, ()))).bind fun r1 => some ((true, ()), ((r1.1.1.1, (r1.1.1.2.1, (r1.1.1.2.2.1, (r1.1.1.2.2.2.1, (r1.1.1.2.2.2.2.1, (r1.1.1.2.2.2.2.2.1, (r0.1.2.1, r1.1.1.2.2.2.2.2.2.2))))))), ()))) else bif (eqI a6 (5 : Int)) then ((c320 (a2, (a9, (a11, ())))).bind fun r0 => (c318 (a0, (r0.1.1, ()))).bind fun r1 => some ((true, ()), ((r1.1.1.1, (r1.1.1.2.1, (r1.1.1.2.2.1, (r1.1.1.2.2.2.1, (r1.1.1.2.2.2.2.1, (r1.1.1.2.2.2.2.2.1, (r0.1.2.1, r1.1.1.2.2.2.2.2.2.2))))))), ()))) else bif (eqI a6 (6 : Int)) then ((c318 (a0, ((bAnd Go.IntKind.i64 a2 a9), ()))).bind fun r0 => some ((true, ()), (r0.1.1, ()))) else bif (eqI a6 (7 : Int)) then ((c318 (a0, ((bOr Go.IntKind.i64 a2 a9), ()))).bind fun r0 => some ((true, ()), (r0.1.1, ()))) else bif (eqI a6 (8 : Int)) then ((c318 (a0, ((bXor Go.IntKind.i64 a2 a9), ()))).bind fun r0 => some ((true, ()), (r0.1.1, ()))) else bif (eqI a6 (9 : Int)) then ((c320 (a2, (a9, (true, ())))).bind fun r0 => (c321 (r0.1.1, ())).bind fun r1 => some ((true, ()), ((a2, (a3.1, (a5.1, (a8.1, (r1.1.1, (r1.1.2.1, (r0.1.2.1, a10.2.2))))))), ()))) else some ((false, ()), (a0, ()))) else bif (eqI a6 (29 : Int)) then (bif (eqI a6 (29 : Int)) then ((c319 (a2, (a1.2.1, (a11, ())))).bind fun r0 => (c318 (a0, (r0.1.1, ()))).bind fun r1 => some ((true, ()), ((r1.1.1.1, (r1.1.1.2.1, (r1.1.1.2.2.1, (r1.1.1.2.2.2.1, (r1.1.1.2.2.2.2.1, (r1.1.1.2.2.2.2.2.1, (r0.1.2.1, r1.1.1.2.2.2.2.2.2.2))))))), ()))) else (c319 (a2, (a9, (a11, ())))).bind fun r0 => (c318 (a0, (r0.1.1, ()))).bind fun r1 => some ((true, ()), ((r1.1.1.1, (r1.1.1.2.1, (r1.1.1.2.2.1, (r1.1.1.2.2.2.1, (r1.1.1.2.2.2.2.1, (r1.1.1.2.2.2.2.2.1, (r0.1.2.1, r1.1.1.2.2.2.2.2.2.2))))))), ()))) else bif (eqI a6 (5 : Int)) then ((c320 (a2, (a9, (a11, ())))).bind fun r0 => (c318 (a0, (r0.1.1, ()))).bind fun r1 => some ((true, ()), ((r1.1.1.1, (r1.1.1.2.1, (r1.1.1.2.2.1, (r1.1.1.2.2.2.1, (r1.1.1.2.2.2.2.1, (r1.1.1.2.2.2.2.2.1, (r0.1.2.1, r1.1.1.2.2.2.2.2.2.2))))))), ()))) else bif (eqI a6 (6 : Int)) then ((c318 (a0, ((bAnd Go.IntKind.i64 a2 a9), ()))).bind fun r0 => some ((true, ()), (r0.1.1, ()))) else bif (eqI a6 (7 : Int)) then ((c318 (a0, ((bOr Go.IntKind.i64 a2 a9), ()))).bind fun r0 => some ((true, ()), (r0.1.1, ()))) else bif (eqI a6 (8 : Int)) then ((c318 (a0, ((bXor Go.IntKind.i64 a2 a9), ()))).bind fun r0 => some ((true, ()), (r0.1.1, ()))) else bif (eqI a6 (9 : Int)) then ((c320 (a2, (a9, (true, ())))).bind fun r0 => (c321 (r0.1.1, ())).bind fun r1 => some ((true, ()), ((a2, (a3.1, (a5.1, (a8.1, (r1.1.1, (r1.1.2.1, (r0.1.2.1, a10.2.2))))))), ()))) else some ((false, ()), (a0, ())); bif (eqI a6 (1 : Int)) then ((c318 (a0, a7)).bind fun r0 => some ((true, ()), (r0.1.1, ()))) else bif (eqI a6 (2 : Int)) then (bif (eqI a6 (2 : Int)) then ((c318 (a0, a1.2)).bind fun r0 => some ((true, ()), (r0.1.1, ()))) else X0) else bif (eqI a6 (14 : Int)) then ((c318 (a0, a1.2)).bind fun r0 => some ((true, ()), (r0.1.1, ()))) else X0
noncomputable def E305 (c319 : F319) (c318 : F318) (c321 : F321) (c320 : F320) := mkE [g319 c319, g318 c318, g321 c321, g320 c320]
theorem s305 (c319 : F319) (c318 : F318) (c321 : F321) (c320 : F320)  (y) : tevF (E305 c319 c318 c321 c320 ) Tryz.f305 i305 o305 y = m305 c319 c318 c321 c320  y := by kernel_rfl
noncomputable def r305 : F305 := m305 r319 r318 r321 r320 
theorem k305 : CK Tryz.prog (g305 r305) := fn0 (s305 r319 r318 r321 r320) (fnsL_ok ⟨k319, k318, k321, k320, trivial⟩) rfl mixed (by kernel_rfl) (by kernel_rfl) (by kernel_rfl)
@[reducible] def i322 : List Ty := [.a q8, .v (.int .i64)]
@[reducible] def o322 : List Ty := [.a q8]
abbrev R322 := Option (PTup o322 × BTup i322)
abbrev F322 := PTup i322 → R322
abbrev g322 (c : F322) : Nat × Tev.Fn := (322, ⟨i322, o322, c, .nor⟩)
noncomputable def m322 (c294 : F294) (c321 : F321)  (y : PTup i322) : Option (PTup o322 × BTup i322) :=
  (c294 y.2).bind fun r0 =>
  (c321 y.2).bind fun r1 =>
  some (((y.1.1, (r0.1.1, (y.1.2.2.1, (y.1.2.2.2.1, (r1.1.1, (r1.1.2.1, y.1.2.2.2.2.2.2)))))), ()), ())
noncomputable def E322 (c294 : F294) (c321 : F321) := mkE [g294 c294, g321 c321]
theorem s322 (c294 : F294) (c321 : F321)  (y) : tevF (E322 c294 c321 ) Tryz.f322 i322 o322 y = m322 c294 c321  y := by kernel_rfl
noncomputable def r322 : F322 := m322 r294 r321 
theorem k322 : CK Tryz.prog (g322 r322) := fn0 (s322 r294 r321) (fnsL_ok ⟨k294, k321, trivial⟩) rfl mixed (by kernel_rfl) (by kernel_rfl) (by kernel_rfl)
@[reducible] def i306 : List Ty := [.p q8, .a q15]
@[reducible] def o306 : List Ty := [.v (.bool)]
abbrev R306 := Option (PTup o306 × BTup i306)
abbrev F306 := PTup i306 → R306
abbrev g306 (c : F306) : Nat × Tev.Fn := (306, ⟨i306, o306, c, .nor⟩)
noncomputable def m306 (c318 : F318) (c322 : F322)  (y : PTup i306) : Option (PTup o306 × BTup i306) :=
  bif (eqI y.2.1.1 (10 : Int)) then ((c322 (y.1, (y.1.1, ()))).bind fun r0 =>
   some ((true, ()), (r0.1.1, ())))
  else bif (eqI y.2.1.1 (11 : Int)) then ((c318 (y.1, (y.1.2.1, ()))).bind fun r0 =>
   some ((true, ()), (r0.1.1, ())))
  else bif (eqI y.2.1.1 (12 : Int)) then ((c322 (y.1, ((wI (y.1.2.1 + (1 : Int))), ()))).bind fun r0 =>
   some ((true, ()), (r0.1.1, ())))
  else bif (eqI y.2.1.1 (13 : Int)) then ((c322 (y.1, ((wI (y.1.2.1 - (1 : Int))), ()))).bind fun r0 =>
   some ((true, ()), (r0.1.1, ())))
  else bif (eqI y.2.1.1 (25 : Int)) then (some ((true, ()), ((y.1.1, (y.1.2.1, (y.1.2.2.1, (y.1.2.2.2.1, (y.1.2.2.2.2.1, (y.1.2.2.2.2.2.1, (y.1.2.2.2.2.2.2.1, (true, ())))))))), ())))
  else bif (eqI y.2.1.1 (26 : Int)) then (some ((true, ()), ((y.1.1, (y.1.2.1, (y.1.2.2.1, (y.1.2.2.2.1, (y.1.2.2.2.2.1, (y.1.2.2.2.2.2.1, (y.1.2.2.2.2.2.2.1, (false, ())))))))), ())))
  else bif (eqI y.2.1.1 (27 : Int)) then (some ((true, ()), ((y.1.1, (y.1.2.1, (y.1.2.2.1, (y.1.2.2.2.1, (y.1.2.2.2.2.1, (y.1.2.2.2.2.2.1, (true, y.1.2.2.2.2.2.2.2))))))), ())))
  else bif (eqI y.2.1.1 (28 : Int)) then (some ((true, ()), ((y.1.1, (y.1.2.1, (y.1.2.2.1, (y.1.2.2.2.1, (y.1.2.2.2.2.1, (y.1.2.2.2.2.2.1, (false, y.1.2.2.2.2.2.2.2))))))), ())))
  else some ((false, ()), (y.1, ()))
noncomputable def E306 (c318 : F318) (c322 : F322) := mkE [g318 c318, g322 c322]
theorem s306 (c318 : F318) (c322 : F322)  (y) : tevF (E306 c318 c322 ) Tryz.f306 i306 o306 y = m306 c318 c322  y := by kernel_rfl
noncomputable def r306 : F306 := m306 r318 r322 
theorem k306 : CK Tryz.prog (g306 r306) := fn0 (s306 r318 r322) (fnsL_ok ⟨k318, k322, trivial⟩) rfl mixed (by kernel_rfl) (by kernel_rfl) (by kernel_rfl)
@[reducible] def i324 : List Ty := [.p q1, .p q8]
@[reducible] def o324 : List Ty := [.v (.int .i64)]
abbrev R324 := Option (PTup o324 × BTup i324)
abbrev F324 := PTup i324 → R324
abbrev g324 (c : F324) : Nat × Tev.Fn := (324, ⟨i324, o324, c, .nor⟩)
noncomputable def m324 (c294 : F294)  (y : PTup i324) : Option (PTup o324 × BTup i324) :=
  bif (neI (lenI y.1.1) (512 : Int)) then (some (((0 : Int), ()), (y.1, (y.2.1, ()))))
  else (c294 ((wI (y.2.1.2.2.1 + (1 : Int))), ())).bind fun r0 =>
  bif (leI (0 : Int) (wI ((256 : Int) + r0.1.1))) then (bif (ltI (wI ((256 : Int) + r0.1.1)) (lenI y.1.1)) then (some (((rdE .i y.1.1 (wI ((256 : Int) + r0.1.1))), ()), (y.1, ((y.2.1.1, (y.2.1.2.1, (r0.1.1, y.2.1.2.2.2))), ()))))
   else none)
  else none
noncomputable def E324 (c294 : F294) := mkE [g294 c294]
theorem s324 (c294 : F294)  (y) : tevF (E324 c294 ) Tryz.f324 i324 o324 y = m324 c294  y := by kernel_rfl
noncomputable def r324 : F324 := m324 r294 
theorem k324 : CK Tryz.prog (g324 r324) := fn0 (s324 r294) (fnsL_ok ⟨k294, trivial⟩) rfl mixed (by kernel_rfl) (by kernel_rfl) (by kernel_rfl)
@[reducible] def i323 : List Ty := [.p q1, .p q8]
@[reducible] def o323 : List Ty := []
abbrev R323 := Option (PTup o323 × BTup i323)
abbrev F323 := PTup i323 → R323
abbrev g323 (c : F323) : Nat × Tev.Fn := (323, ⟨i323, o323, c, .nor⟩)
noncomputable def m323 (c324 : F324) (c249 : F249)  (y : PTup i323) : Option (PTup o323 × BTup i323) :=
  (c324 (y.1, (y.2.1, ()))).bind fun r0 =>
  (c324 ((y.1.1, r0.2.1.2), (r0.2.2.1, ()))).bind fun r1 =>
  (c249 (r0.1.1, r1.1)).bind fun r2 =>
  some ((), ((y.1.1, r1.2.1.2), ((r1.2.2.1.1, (r1.2.2.1.2.1, (r1.2.2.1.2.2.1, (r2.1.1, r1.2.2.1.2.2.2.2)))), ())))
noncomputable def E323 (c324 : F324) (c249 : F249) := mkE [g324 c324, g249 c249]
theorem s323 (c324 : F324) (c249 : F249)  (y) : tevF (E323 c324 c249 ) Tryz.f323 i323 o323 y = m323 c324 c249  y := by kernel_rfl
noncomputable def r323 : F323 := m323 r324 r249 
theorem k323 : CK Tryz.prog (g323 r323) := fn0 (s323 r324 r249) (fnsL_ok ⟨k324, k249, trivial⟩) rfl mixed (by kernel_rfl) (by kernel_rfl) (by kernel_rfl)
@[reducible] def i325 : List Ty := [.a q8, .v (.int .i64)]
@[reducible] def o325 : List Ty := [.a q8]
abbrev R325 := Option (PTup o325 × BTup i325)
abbrev F325 := PTup i325 → R325
abbrev g325 (c : F325) : Nat × Tev.Fn := (325, ⟨i325, o325, c, .nor⟩)
noncomputable def m325   (y : PTup i325) : Option (PTup o325 × BTup i325) :=
  some (((y.1.1, (y.1.2.1, (y.1.2.2.1, (y.1.2.2.2.1, ((neI (bAnd Go.IntKind.i64 y.2.1 (2 : Int)) (0 : Int)), ((neI (bAnd Go.IntKind.i64 y.2.1 (128 : Int)) (0 : Int)), ((neI (bAnd Go.IntKind.i64 y.2.1 (1 : Int)) (0 : Int)), ((neI (bAnd Go.IntKind.i64 y.2.1 (4 : Int)) (0 : Int)), ())))))))), ()), ())
noncomputable def E325  := mkE []
theorem s325   (y) : tevF (E325  ) Tryz.f325 i325 o325 y = m325   y := by kernel_rfl
noncomputable def r325 : F325 := m325  
theorem k325 : CK Tryz.prog (g325 r325) := fn0 (s325 ) (fnsL_ok trivial) rfl mixed (by kernel_rfl) (by kernel_rfl) (by kernel_rfl)
@[reducible] def i307 : List Ty := [.p q7, .p q8, .a q15]
@[reducible] def o307 : List Ty := []
abbrev R307 := Option (PTup o307 × BTup i307)
abbrev F307 := PTup i307 → R307
abbrev g307 (c : F307) : Nat × Tev.Fn := (307, ⟨i307, o307, c, .nor⟩)
noncomputable def m307 (c323 : F323) (c324 : F324) (c296 : F296) (c295 : F295) (c299 : F299) (c318 : F318) (c325 : F325)  (y : PTup i307) : Option (PTup o307 × BTup i307) :=
  (c299 y.2.2.1.2).bind fun r0 => let X0 : R307 := some ((), (y.1, ((y.2.1.1, (y.2.1.2.1, (y.2.1.2.2.1, (r0.1.1, y.2.1.2.2.2.2)))), ()))); bif (eqI y.2.2.1.1 (16 : Int)) then (bif (!y.2.1.2.2.2.2.1) then X0 else some ((), (y.1, (y.2.1, ())))) else bif (eqI y.2.2.1.1 (17 : Int)) then (bif y.2.1.2.2.2.2.1 then X0 else some ((), (y.1, (y.2.1, ())))) else bif (eqI y.2.2.1.1 (18 : Int)) then (bif y.2.1.2.2.2.2.2.2.1 then X0 else some ((), (y.1, (y.2.1, ())))) else bif (eqI y.2.2.1.1 (19 : Int)) then X0 else bif (eqI y.2.2.1.1 (20 : Int)) then ((c295 (y.1, (y.2.1, ()))).bind fun r1 => some ((), (r1.2.1, ((r1.2.2.1.1, (r1.2.2.1.2.1, (r1.2.2.1.2.2.1, (r0.1.1, r1.2.2.1.2.2.2.2)))), ())))) else bif (eqI y.2.2.1.1 (21 : Int)) then ((c323 (y.1, (y.2.1, ()))).bind fun r1 => some ((), ((y.1.1, r1.2.1.2), (r1.2.2.1, ())))) else bif (eqI y.2.2.1.1 (22 : Int)) then ((c296 (y.1, (y.2.1, (y.2.1.1, ())))).bind fun r1 => some ((), (r1.2.1, (r1.2.2.1, ())))) else bif (eqI y.2.2.1.1 (23 : Int)) then ((c324 (y.1, (y.2.1, ()))).bind fun r1 => (c318 (r1.2.2.1, r1.1)).bind fun r2 => some ((), ((y.1.1, r1.2.1.2), (r2.1.1, ())))) else bif (eqI y.2.2.1.1 (24 : Int)) then ((c324 (y.1, (y.2.1, ()))).bind fun r1 => (c325 (r1.2.2.1, r1.1)).bind fun r2 => (c323 ((y.1.1, r1.2.1.2), (r2.1.1, ()))).bind fun r3 => some ((), ((y.1.1, r3.2.1.2), (r3.2.2.1, ())))) else some ((), (y.1, (y.2.1, ())))
noncomputable def E307 (c323 : F323) (c324 : F324) (c296 : F296) (c295 : F295) (c299 : F299) (c318 : F318) (c325 : F325) := mkE [g323 c323, g324 c324, g296 c296, g295 c295, g299 c299, g318 c318, g325 c325]
theorem s307 (c323 : F323) (c324 : F324) (c296 : F296) (c295 : F295) (c299 : F299) (c318 : F318) (c325 : F325)  (y) : tevF (E307 c323 c324 c296 c295 c299 c318 c325 ) Tryz.f307 i307 o307 y = m307 c323 c324 c296 c295 c299 c318 c325  y := by kernel_rfl
noncomputable def r307 : F307 := m307 r323 r324 r296 r295 r299 r318 r325 
theorem k307 : CK Tryz.prog (g307 r307) := fn0 (s307 r323 r324 r296 r295 r299 r318 r325) (fnsL_ok ⟨k323, k324, k296, k295, k299, k318, k325, trivial⟩) rfl mixed (by kernel_rfl) (by kernel_rfl) (by kernel_rfl)
@[reducible] def i254 : List Ty := [.p q7, .p q8, .a q15, .v (.int .i64)]
@[reducible] def o254 : List Ty := []
abbrev R254 := Option (PTup o254 × BTup i254)
abbrev F254 := PTup i254 → R254
abbrev g254 (c : F254) : Nat × Tev.Fn := (254, ⟨i254, o254, c, .nor⟩)
noncomputable def m254 (c305 : F305) (c306 : F306) (c307 : F307) (c299 : F299) (c294 : F294) (c248 : F248)  (y : PTup i254) : Option (PTup o254 × BTup i254) :=
  (c248 (y.2.2.1.1, ())).bind fun r0 =>
  (c299 ((wI (y.2.1.2.2.2.1 + r0.1.1)), ())).bind fun r1 =>
  (c294 y.2.2.2).bind fun r2 =>
  (c305 ((y.2.1.1, (y.2.1.2.1, (y.2.1.2.2.1, (r1.1.1, y.2.1.2.2.2.2)))), (y.2.2.1, r2.1))).bind fun r3 =>
  bif (!r3.1.1) then ((c306 (r3.2.1, (y.2.2.1, ()))).bind fun r4 =>
   bif (!r4.1.1) then ((c307 (y.1, (r4.2.1, (y.2.2.1, ())))).bind fun r5 =>
    some ((), (r5.2.1, (r5.2.2.1, ()))))
   else some ((), (y.1, (r4.2.1, ()))))
  else some ((), (y.1, (r3.2.1, ())))
noncomputable def E254 (c305 : F305) (c306 : F306) (c307 : F307) (c299 : F299) (c294 : F294) (c248 : F248) := mkE [g305 c305, g306 c306, g307 c307, g299 c299, g294 c294, g248 c248]
theorem s254 (c305 : F305) (c306 : F306) (c307 : F307) (c299 : F299) (c294 : F294) (c248 : F248)  (y) : tevF (E254 c305 c306 c307 c299 c294 c248 ) Tryz.f254 i254 o254 y = m254 c305 c306 c307 c299 c294 c248  y := by kernel_rfl
noncomputable def r254 : F254 := m254 r305 r306 r307 r299 r294 r248 
theorem k254 : CK Tryz.prog (g254 r254) := fn0 (s254 r305 r306 r307 r299 r294 r248) (fnsL_ok ⟨k305, k306, k307, k299, k294, k248, trivial⟩) rfl mixed (by kernel_rfl) (by kernel_rfl) (by kernel_rfl)
@[reducible] def i183 : List Ty := [.p [.sl false .n, .sl false .i, .sl true .i, .int .i64, .int .i64, .int .i64, .int .i64, .int .i64, .bool, .bool, .bool, .bool, .int .i64, .int .i64, .int .i64, .int .i64, .int .i64, .bool, .sl true .i, .sl false .i, .int .i64, .int .i64, .int .i64, .int .i64, .int .i64, .bool, .bool, .bool, .int .i64, .bool, .int .i64, .sl false .n, .sl false .i, .sl true .i], .a q15]
@[reducible] def o183 : List Ty := []
abbrev R183 := Option (PTup o183 × BTup i183)
abbrev F183 := PTup i183 → R183
abbrev g183 (c : F183) : Nat × Tev.Fn := (183, ⟨i183, o183, c, .nor⟩)
noncomputable def m183 (c252 : F252) (c253 : F253) (c254 : F254) (c251 : F251)  (y : PTup i183) : Option (PTup o183 × BTup i183) :=
  let a0 := y.1; let a1 := a0.2; let a2 := a1.2; let a3 := a2.2; let a4 := a3.2; let a5 := a4.2; let a6 := a5.2; let a7 := a6.2; let a8 := a7.2; let a9 := a8.2; let a10 := a9.2.2; let a11 := a10.2.2; let a12 := a11.2.2; let a13 := a12.2.2; let a14 := a13.2.2.2.2.2; let a15 := a14.2.2.2.2.2; (c251 (y.2.1, ((a4.1, (a5.1, (a6.1, (a7.1, (a8.1, (a9.1, (a9.2.1, (a10.1, ())))))))), ()))).bind fun r0 =>
  bif (eqI r0.1.1 (1 : Int)) then ((c252 (a0, (r0.1.2.1, ()))).bind fun r1 => let d0 := r1.2; let d1 := d0.1; let d2 := d1.2; let d3 := d2.2; let d4 := d3.2; let d5 := d4.2; let d6 := d5.2; let d7 := d6.2; let d8 := d7.2; let d9 := d8.2; let d10 := d9.2; let d11 := d10.2; let d12 := d11.2; let d13 := d12.2; let d14 := d13.2; let d15 := d14.2; let d16 := d15.2; let d17 := d16.2; let d18 := d17.2; let d19 := d18.2; let d20 := d19.2; let d21 := d20.2; let d22 := d21.2; let d23 := d22.2; let d24 := d23.2.2; let d25 := d24.2.2; (c254 ((a2.1, (d4.1, ())), ((d5.1, (d6.1, (d7.1, (d8.1, (d9.1, (d10.1, (d11.1, (d12.1, ())))))))), (y.2.1, r1.1)))).bind fun r2 =>
   some ((), ((a0.1, (a1.1, (r2.2.1.1, (r2.2.1.2.1, (r2.2.2.1.1, (r2.2.2.1.2.1, (r2.2.2.1.2.2.1, (r2.2.2.1.2.2.2.1, (r2.2.2.1.2.2.2.2.1, (r2.2.2.1.2.2.2.2.2.1, (r2.2.2.1.2.2.2.2.2.2.1, (r2.2.2.1.2.2.2.2.2.2.2.1, (d13.1, (d14.1, (d15.1, (d16.1, (d17.1, (d18.1, (a13.2.1, (a13.2.2.1, (d21.1, (d22.1, (d23.1, (d23.2.1, (d24.1, (d24.2.1, (d25.1, (d25.2.1, (d25.2.2.1, (d25.2.2.2.1, (d25.2.2.2.2.1, (a15.2.2.2.2.1, (a15.2.2.2.2.2.1, d25.2.2.2.2.2.2.2))))))))))))))))))))))))))))))))), ())))
  else bif (eqI r0.1.1 (2 : Int)) then ((c253 (a0, r0.1.2)).bind fun r1 => let d0 := r1.2; let d1 := d0.1; let d2 := d1.2; let d3 := d2.2; let d4 := d3.2; let d5 := d4.2; let d6 := d5.2; let d7 := d6.2; let d8 := d7.2; let d9 := d8.2; let d10 := d9.2; let d11 := d10.2; let d12 := d11.2; let d13 := d12.2; let d14 := d13.2; let d15 := d14.2; let d16 := d15.2; let d17 := d16.2; let d18 := d17.2; let d19 := d18.2; let d20 := d19.2; let d21 := d20.2; let d22 := d21.2; let d23 := d22.2.2; let d24 := d23.2.2; (c254 ((d3.1, (d4.1, ())), ((d5.1, (d6.1, (d7.1, (d8.1, (d9.1, (d10.1, (d11.1, (d12.1, ())))))))), (y.2.1, ((0 : Int), ()))))).bind fun r2 =>
   some ((), ((a0.1, (a1.1, (r2.2.1.1, (r2.2.1.2.1, (r2.2.2.1.1, (r2.2.2.1.2.1, (r2.2.2.1.2.2.1, (r2.2.2.1.2.2.2.1, (r2.2.2.1.2.2.2.2.1, (r2.2.2.1.2.2.2.2.2.1, (r2.2.2.1.2.2.2.2.2.2.1, (r2.2.2.1.2.2.2.2.2.2.2.1, (d13.1, (d14.1, (d15.1, (d16.1, (d17.1, (d18.1, (d19.1, (a13.2.2.1, (d21.1, (d22.1, (d22.2.1, (d23.1, (d23.2.1, (d24.1, (d24.2.1, (d24.2.2.1, (d24.2.2.2.1, (d24.2.2.2.2.1, (d24.2.2.2.2.2.1, a15.2.2.2.2))))))))))))))))))))))))))))))), ())))
  else (c254 ((a2.1, (a3.1, ())), ((a4.1, (a5.1, (a6.1, (a7.1, (a8.1, (a9.1, (a9.2.1, (a10.1, ())))))))), (y.2.1, r0.1.2.2)))).bind fun r1 =>
  some ((), ((a0.1, (a1.1, (r1.2.1.1, (r1.2.1.2.1, (r1.2.2.1.1, (r1.2.2.1.2.1, (r1.2.2.1.2.2.1, (r1.2.2.1.2.2.2.1, (r1.2.2.1.2.2.2.2.1, (r1.2.2.1.2.2.2.2.2.1, (r1.2.2.1.2.2.2.2.2.2.1, (r1.2.2.1.2.2.2.2.2.2.2.1, a10.2)))))))))))), ()))
noncomputable def E183 (c252 : F252) (c253 : F253) (c254 : F254) (c251 : F251) := mkE [g252 c252, g253 c253, g254 c254, g251 c251]
theorem s183 (c252 : F252) (c253 : F253) (c254 : F254) (c251 : F251)  (y) : tevF (E183 c252 c253 c254 c251 ) Tryz.f183 i183 o183 y = m183 c252 c253 c254 c251  y := by kernel_rfl
noncomputable def r183 : F183 := m183 r252 r253 r254 r251 
theorem k183 : CK Tryz.prog (g183 r183) := fn0 (s183 r252 r253 r254 r251) (fnsL_ok ⟨k252, k253, k254, k251, trivial⟩) rfl mixed (by kernel_rfl) (by kernel_rfl) (by kernel_rfl)
@[reducible] def i184 : List Ty := [.p q16]
@[reducible] def o184 : List Ty := []
abbrev R184 := Option (PTup o184 × BTup i184)
abbrev F184 := PTup i184 → R184
abbrev g184 (c : F184) : Nat × Tev.Fn := (184, ⟨i184, o184, c, .nor⟩)
noncomputable def m184 (c256 : F256) (c255 : F255)  (y : PTup i184) : Option (PTup o184 × BTup i184) :=
  let a0 := y.1; let a1 := a0.2; let a2 := a1.2; let a3 := a2.2; let a4 := a3.2; let a5 := a4.2; let a6 := a5.2; let a7 := a6.2; let a8 := a7.2; let a9 := a8.2; let a10 := a9.2; let a11 := a10.2; let a12 := a11.2; let a13 := a12.2; let a14 := a13.2; let a15 := a14.2; let a16 := a15.2; let a17 := a16.2; let a18 := a17.2; let a19 := a18.2; let a20 := a19.2; let a21 := a20.2; let a22 := a21.2; let a23 := a22.2; let a24 := a23.2; let a25 := a24.2; let a26 := a25.2; let a27 := a26.2; let a28 := a27.2; let a29 := a28.2; let a30 := a29.2; let a31 := a30.2; let a32 := a31.2; (c255 ((a12.1, (a13.1, (a14.1, (a15.1, (a16.1, (a17.1, (a18.1, (a19.1, ())))))))), ())).bind fun r0 => let b0 := r0.1; let b1 := r0.2; let b2 := b0.2; let b3 := b1.1; let b4 := b3.2; let b5 := b4.2; let b6 := b5.2; let b7 := b6.2; let b8 := b7.2; let b9 := b8.2.2; bif b0.1 then (bif (leN ((List.length a31.1) + (List.length (b2.1 :: []))) (E.most .n)) then (bif a29.1 then ((c256 ((a20.1, (a21.1, (a22.1, (a23.1, (a24.1, (a25.1, (a26.1, ()))))))), ())).bind fun r1 =>
     bif r1.1.2.1 then (bif (leN ((List.length a32.1) + (List.length (r1.1.1 :: []))) (E.most .i)) then (some ((), ((a0.1, (a1.1, (a2.1, (a3.1, (a4.1, (a5.1, (a6.1, (a7.1, (a8.1, (a9.1, (a10.1, (a11.1, (b3.1, (b4.1, (b5.1, (b6.1, (b7.1, (b8.1, (a18.1, (b9.1, (r1.2.1.1, (r1.2.1.2.1, (r1.2.1.2.2.1, (r1.2.1.2.2.2.1, (r1.2.1.2.2.2.2.1, (r1.2.1.2.2.2.2.2.1, (r1.2.1.2.2.2.2.2.2.1, (a27.1, (a28.1, (true, (a30.1, ((a31.1 ++ (b2.1 :: [])), ((a32.1 ++ (r1.1.1 :: [])), a32.2))))))))))))))))))))))))))))))))), ())))
      else none)
     else some ((), ((a0.1, (a1.1, (a2.1, (a3.1, (a4.1, (a5.1, (a6.1, (a7.1, (a8.1, (a9.1, (a10.1, (a11.1, (b3.1, (b4.1, (b5.1, (b6.1, (b7.1, (b8.1, (a18.1, (b9.1, (r1.2.1.1, (r1.2.1.2.1, (r1.2.1.2.2.1, (r1.2.1.2.2.2.1, (r1.2.1.2.2.2.2.1, (r1.2.1.2.2.2.2.2.1, (r1.2.1.2.2.2.2.2.2.1, (a27.1, (a28.1, (true, (a30.1, ((a31.1 ++ (b2.1 :: [])), a32)))))))))))))))))))))))))))))))), ())))
    else (c256 ((a20.1, (a21.1, (a22.1, (a23.1, (a24.1, (a25.1, (a26.1, ()))))))), ())).bind fun r1 =>
    bif r1.1.2.1 then (bif (leN ((List.length a32.1) + (List.length (r1.1.1 :: []))) (E.most .i)) then (some ((), ((a0.1, (a1.1, (a2.1, (a3.1, (a4.1, (a5.1, (a6.1, (a7.1, (a8.1, (a9.1, (a10.1, (a11.1, (b3.1, (b4.1, (b5.1, (b6.1, (b7.1, (b8.1, (a18.1, (b9.1, (r1.2.1.1, (r1.2.1.2.1, (r1.2.1.2.2.1, (r1.2.1.2.2.2.1, (r1.2.1.2.2.2.2.1, (r1.2.1.2.2.2.2.2.1, (r1.2.1.2.2.2.2.2.2.1, (a27.1, (a28.1, (b2.2.1, (a30.1, ((a31.1 ++ (b2.1 :: [])), ((a32.1 ++ (r1.1.1 :: [])), a32.2))))))))))))))))))))))))))))))))), ())))
     else none)
    else some ((), ((a0.1, (a1.1, (a2.1, (a3.1, (a4.1, (a5.1, (a6.1, (a7.1, (a8.1, (a9.1, (a10.1, (a11.1, (b3.1, (b4.1, (b5.1, (b6.1, (b7.1, (b8.1, (a18.1, (b9.1, (r1.2.1.1, (r1.2.1.2.1, (r1.2.1.2.2.1, (r1.2.1.2.2.2.1, (r1.2.1.2.2.2.2.1, (r1.2.1.2.2.2.2.2.1, (r1.2.1.2.2.2.2.2.2.1, (a27.1, (a28.1, (b2.2.1, (a30.1, ((a31.1 ++ (b2.1 :: [])), a32)))))))))))))))))))))))))))))))), ())))
   else none)
  else bif a29.1 then ((c256 ((a20.1, (a21.1, (a22.1, (a23.1, (a24.1, (a25.1, (a26.1, ()))))))), ())).bind fun r1 =>
   bif r1.1.2.1 then (bif (leN ((List.length a32.1) + (List.length (r1.1.1 :: []))) (E.most .i)) then (some ((), ((a0.1, (a1.1, (a2.1, (a3.1, (a4.1, (a5.1, (a6.1, (a7.1, (a8.1, (a9.1, (a10.1, (a11.1, (b3.1, (b4.1, (b5.1, (b6.1, (b7.1, (b8.1, (a18.1, (b9.1, (r1.2.1.1, (r1.2.1.2.1, (r1.2.1.2.2.1, (r1.2.1.2.2.2.1, (r1.2.1.2.2.2.2.1, (r1.2.1.2.2.2.2.2.1, (r1.2.1.2.2.2.2.2.2.1, (a27.1, (a28.1, (true, (a30.1, (a31.1, ((a32.1 ++ (r1.1.1 :: [])), a32.2))))))))))))))))))))))))))))))))), ())))
    else none)
   else some ((), ((a0.1, (a1.1, (a2.1, (a3.1, (a4.1, (a5.1, (a6.1, (a7.1, (a8.1, (a9.1, (a10.1, (a11.1, (b3.1, (b4.1, (b5.1, (b6.1, (b7.1, (b8.1, (a18.1, (b9.1, (r1.2.1.1, (r1.2.1.2.1, (r1.2.1.2.2.1, (r1.2.1.2.2.2.1, (r1.2.1.2.2.2.2.1, (r1.2.1.2.2.2.2.2.1, (r1.2.1.2.2.2.2.2.2.1, (a27.1, (a28.1, (true, a30)))))))))))))))))))))))))))))), ())))
  else (c256 ((a20.1, (a21.1, (a22.1, (a23.1, (a24.1, (a25.1, (a26.1, ()))))))), ())).bind fun r1 =>
  bif r1.1.2.1 then (bif (leN ((List.length a32.1) + (List.length (r1.1.1 :: []))) (E.most .i)) then (some ((), ((a0.1, (a1.1, (a2.1, (a3.1, (a4.1, (a5.1, (a6.1, (a7.1, (a8.1, (a9.1, (a10.1, (a11.1, (b3.1, (b4.1, (b5.1, (b6.1, (b7.1, (b8.1, (a18.1, (b9.1, (r1.2.1.1, (r1.2.1.2.1, (r1.2.1.2.2.1, (r1.2.1.2.2.2.1, (r1.2.1.2.2.2.2.1, (r1.2.1.2.2.2.2.2.1, (r1.2.1.2.2.2.2.2.2.1, (a27.1, (a28.1, (b2.2.1, (a30.1, (a31.1, ((a32.1 ++ (r1.1.1 :: [])), a32.2))))))))))))))))))))))))))))))))), ())))
   else none)
  else some ((), ((a0.1, (a1.1, (a2.1, (a3.1, (a4.1, (a5.1, (a6.1, (a7.1, (a8.1, (a9.1, (a10.1, (a11.1, (b3.1, (b4.1, (b5.1, (b6.1, (b7.1, (b8.1, (a18.1, (b9.1, (r1.2.1.1, (r1.2.1.2.1, (r1.2.1.2.2.1, (r1.2.1.2.2.2.1, (r1.2.1.2.2.2.2.1, (r1.2.1.2.2.2.2.2.1, (r1.2.1.2.2.2.2.2.2.1, (a27.1, (a28.1, (b2.2.1, a30)))))))))))))))))))))))))))))), ()))
noncomputable def E184 (c256 : F256) (c255 : F255) := mkE [g256 c256, g255 c255]
theorem s184 (c256 : F256) (c255 : F255)  (y) : tevF (E184 c256 c255 ) Tryz.f184 i184 o184 y = m184 c256 c255  y := by kernel_rfl
noncomputable def r184 : F184 := m184 r256 r255 
theorem k184 : CK Tryz.prog (g184 r184) := fn0 (s184 r256 r255) (fnsL_ok ⟨k256, k255, trivial⟩) rfl mixed (by kernel_rfl) (by kernel_rfl) (by kernel_rfl)
@[reducible] def i96 : List Ty := [.p q17]
@[reducible] def o96 : List Ty := [.v (.bool)]
abbrev R96 := Option (PTup o96 × BTup i96)
abbrev F96 := PTup i96 → R96
abbrev g96 (c : F96) : Nat × Tev.Fn := (96, ⟨i96, o96, c, .nor⟩)
@[reducible] def lc96_0 : List Ty := [.v (.int .i64)]
@[reducible] def lb96_0 : List Ty := [.p q16]
@[reducible] def lv96_0 : List Ty := [.v (.int .i64)]
@[reducible] def lr96_0 : List Ty := []
abbrev R96_0 := Option (Sum (PTup lv96_0) (PTup lr96_0) × BTup lb96_0)
abbrev B96_0 := PTup lb96_0 → PTup lv96_0 → R96_0
abbrev A96_0 := PTup lc96_0 → B96_0
noncomputable def w96_0 (c182 : F182) (c183 : F183) (c184 : F184) (c181 : F181) (c180 : F180)  (again : B96_0) (x : PTup lc96_0) (y : PTup lb96_0) (z : PTup lv96_0) : R96_0 :=
  bif (ltI z.1 x.1) then ((c184 (y.1, ())).bind fun r0 => let b0 := r0.2; let b1 := b0.1; let b2 := b1.2; let b3 := b2.2; let b4 := b3.2; let b5 := b4.2; let b6 := b5.2; let b7 := b6.2; let b8 := b7.2; let b9 := b8.2; let b10 := b9.2; let b11 := b10.2; let b12 := b11.2; let b13 := b12.2; let b14 := b13.2; let b15 := b14.2; let b16 := b15.2; let b17 := b16.2; let b18 := b17.2; let b19 := b18.2; let b20 := b19.2; let b21 := b20.2; let b22 := b21.2; let b23 := b22.2; let b24 := b23.2; let b25 := b24.2.2; let b26 := b25.2.2; again ((y.1.1, (y.1.2.1, (y.1.2.2.1, (b4.1, (b5.1, (b6.1, (b7.1, (b8.1, (b9.1, (b10.1, (b11.1, (b12.1, (b13.1, (b14.1, (b15.1, (b16.1, (b17.1, (b18.1, (y.1.2.2.2.2.2.2.2.2.2.2.2.2.2.2.2.2.2.2.1, (b20.1, (b21.1, (b22.1, (b23.1, (b24.1, (b24.2.1, (b25.1, (b25.2.1, (b26.1, (b26.2.1, (b26.2.2.1, (b26.2.2.2.1, (b26.2.2.2.2.1, (b26.2.2.2.2.2.1, y.1.2.2.2.2.2.2.2.2.2.2.2.2.2.2.2.2.2.2.2.2.2.2.2.2.2.2.2.2.2.2.2.2.2))))))))))))))))))))))))))))))))), ()) ((wI (z.1 + (1 : Int))), ()))
  else some ((Sum.inl z), (y.1, ()))
noncomputable def e96_0 (l : A96_0) : LoopE := ⟨[68], lc96_0, [0], lb96_0, [69], lv96_0, [], lr96_0, 1, [], l⟩
noncomputable def m96 (c182 : F182) (c183 : F183) (c184 : F184) (c181 : F181) (c180 : F180) (l0 : A96_0) (y : PTup i96) : Option (PTup o96 × BTup i96) :=
  let a0 := y.1; let a1 := a0.1; let a2 := a0.2; let a3 := a2.1; let a4 := a2.2; let a5 := a4.2; let a6 := a5.2; let a7 := a6.2; let a8 := a7.2; let a9 := a8.2; let a10 := a9.2; let a11 := a10.2; let a12 := a11.2; let a13 := a12.2; let a14 := a13.2; let a15 := a14.2; let a16 := a15.2; let a17 := a16.2; let a18 := a17.2; let a19 := a18.2; let a20 := a19.2; let a21 := a20.1; let a22 := a20.2; let a23 := a22.1; let a24 := a22.2; let a25 := a24.2; let a26 := a25.2; let a27 := a26.2; let a28 := a27.2; let a29 := a28.2; let a30 := a29.2; let a31 := a30.2; let a32 := a31.2; let a33 := a32.2; let a34 := a33.2; let a35 := a34.2; let a36 := a35.2; let a37 := a36.2; let X0 : R96 := (c182 ((a1, (a3, (a4.1, (a5.1, (a6.1, (a7.1, (a8.1, (a9.1, (a10.1, (a11.1, (a12.1, (a13.1, (a14.1, (a15.1, (a16.1, (a17.1, (a18.1, (a19.1, (a21, (a23, (a24.1, (a25.1, (a26.1, (a27.1, (a28.1, (a29.1, (a30.1, (a31.1, (a32.1, (false, a34)))))))))))))))))))))))))))))), ((65530 : Int), ()))).bind fun r2 => let f0 := r2.2; let f1 := f0.1; let f2 := f1.2; let f3 := f2.2; let f4 := f3.2; let f5 := f4.2; let f6 := f5.2; let f7 := f6.2; let f8 := f7.2; let f9 := f8.2; let f10 := f9.2; let f11 := f10.2; let f12 := f11.2; let f13 := f12.2; let f14 := f13.2; let f15 := f14.2; let f16 := f15.2; let f17 := f16.2; let f18 := f17.2; let f19 := f18.2; let f20 := f19.2; let f21 := f20.2; let f22 := f21.2; let f23 := f22.2.2; let f24 := f23.2.2; (l0 ((7 : Int), ()) ((a1, (a3, (f3.1, (f4.1, (f5.1, (f6.1, (f7.1, (f8.1, (f9.1, (f10.1, (f11.1, (f12.1, (f13.1, (f14.1, (f15.1, (f16.1, (f17.1, (f18.1, (a21, (a23, (f21.1, (f22.1, (f22.2.1, (f23.1, (f23.2.1, (f24.1, (f24.2.1, (f24.2.2.1, (f24.2.2.2.1, (f24.2.2.2.2.1, (f24.2.2.2.2.2.1, a35))))))))))))))))))))))))))))))), ()) ((0 : Int), ())).bind fun r3 => let g0 := r3.2; let g1 := g0.1; let g2 := g1.2; let g3 := g2.2; let g4 := g3.2; let g5 := g4.2; let g6 := g5.2; let g7 := g6.2; let g8 := g7.2; let g9 := g8.2; let g10 := g9.2; let g11 := g10.2; let g12 := g11.2; let g13 := g12.2; let g14 := g13.2; let g15 := g14.2; let g16 := g15.2; let g17 := g16.2; let g18 := g17.2; let g19 := g18.2; let g20 := g19.2; let g21 := g20.2; let g22 := g21.2; let g23 := g22.2; let g24 := g23.2; let g25 := g24.2; let g26 := g25.2; let g27 := g26.2; let g28 := g27.2; let g29 := g28.2; let g30 := g29.2.2; sumElim r3.1 (fun r4 => some ((true, ()), ((a1, (a3, (f3.1, (g4.1, (g5.1, (g6.1, (g7.1, (g8.1, (g9.1, (g10.1, (g11.1, (g12.1, (g13.1, (g14.1, (g15.1, (g16.1, (g17.1, (g18.1, (a21, (g20.1, (g21.1, (g22.1, (g23.1, (g24.1, (g25.1, (g26.1, (g27.1, (g28.1, (g29.1, (g29.2.1, ((wI (g30.1 + (1 : Int))), (g30.2.1, (g30.2.2.1, a37))))))))))))))))))))))))))))))))), ()))) (fun r4 => some ((false, ()), ((a1, (a3, (f3.1, (g4.1, (g5.1, (g6.1, (g7.1, (g8.1, (g9.1, (g10.1, (g11.1, (g12.1, (g13.1, (g14.1, (g15.1, (g16.1, (g17.1, (g18.1, (a21, (g20.1, (g21.1, (g22.1, (g23.1, (g24.1, (g25.1, (g26.1, (g27.1, (g28.1, (g29.1, (g29.2.1, (g30.1, (g30.2.1, (g30.2.2.1, a37))))))))))))))))))))))))))))))))), ()))); let X1 : R96 := (c182 (a0, ((65534 : Int), ()))).bind fun r2 => let f0 := r2.2; let f1 := f0.1; let f2 := f1.2; let f3 := f2.2; let f4 := f3.2; let f5 := f4.2; let f6 := f5.2; let f7 := f6.2; let f8 := f7.2; let f9 := f8.2; let f10 := f9.2; let f11 := f10.2; let f12 := f11.2; let f13 := f12.2; let f14 := f13.2; let f15 := f14.2; let f16 := f15.2; let f17 := f16.2; let f18 := f17.2; let f19 := f18.2; let f20 := f19.2; let f21 := f20.2; let f22 := f21.2; let f23 := f22.2.2; let f24 := f23.2.2; (l0 ((7 : Int), ()) ((a1, (a3, (f3.1, (f4.1, (f5.1, (f6.1, (f7.1, (f8.1, (f9.1, (f10.1, (f11.1, (f12.1, (f13.1, (f14.1, (f15.1, (f16.1, (f17.1, (f18.1, (a21, (a23, (f21.1, (f22.1, (f22.2.1, (f23.1, (f23.2.1, (f24.1, (f24.2.1, (f24.2.2.1, (f24.2.2.2.1, (f24.2.2.2.2.1, (f24.2.2.2.2.2.1, a35))))))))))))))))))))))))))))))), ()) ((0 : Int), ())).bind fun r3 => let g0 := r3.2; let g1 := g0.1; let g2 := g1.2; let g3 := g2.2; let g4 := g3.2; let g5 := g4.2; let g6 := g5.2; let g7 := g6.2; let g8 := g7.2; let g9 := g8.2; let g10 := g9.2; let g11 := g10.2; let g12 := g11.2; let g13 := g12.2; let g14 := g13.2; let g15 := g14.2; let g16 := g15.2; let g17 := g16.2; let g18 := g17.2; let g19 := g18.2; let g20 := g19.2; let g21 := g20.2; let g22 := g21.2; let g23 := g22.2; let g24 := g23.2; let g25 := g24.2; let g26 := g25.2; let g27 := g26.2; let g28 := g27.2; let g29 := g28.2; let g30 := g29.2.2; sumElim r3.1 (fun r4 => some ((true, ()), ((a1, (a3, (f3.1, (g4.1, (g5.1, (g6.1, (g7.1, (g8.1, (g9.1, (g10.1, (g11.1, (g12.1, (g13.1, (g14.1, (g15.1, (g16.1, (g17.1, (g18.1, (a21, (g20.1, (g21.1, (g22.1, (g23.1, (g24.1, (g25.1, (g26.1, (g27.1, (g28.1, (g29.1, (g29.2.1, ((wI (g30.1 + (1 : Int))), (g30.2.1, (g30.2.2.1, a37))))))))))))))))))))))))))))))))), ()))) (fun r4 => some ((false, ()), ((a1, (a3, (f3.1, (g4.1, (g5.1, (g6.1, (g7.1, (g8.1, (g9.1, (g10.1, (g11.1, (g12.1, (g13.1, (g14.1, (g15.1, (g16.1, (g17.1, (g18.1, (a21, (g20.1, (g21.1, (g22.1, (g23.1, (g24.1, (g25.1, (g26.1, (g27.1, (g28.1, (g29.1, (g29.2.1, (g30.1, (g30.2.1, (g30.2.2.1, a37))))))))))))))))))))))))))))))))), ()))); bif a33.1 then ((c180 ((a1, ()), ((a4.1, (a5.1, ())), (a9.1, ())))).bind fun r0 => (c181 (r0.1.1.1, ())).bind fun r1 => bif (ltI (20000 : Int) (wI (a14.1 + (7 : Int)))) then (some ((false, ()), (a0, ()))) else bif a33.1 then X0 else X1) else bif a30.1 then ((c180 ((a1, ()), ((a4.1, (a5.1, ())), (a9.1, ())))).bind fun r0 => (c181 (r0.1.1.1, ())).bind fun r1 => bif (!a13.1) then (bif (ltI (20000 : Int) (wI (a14.1 + (7 : Int)))) then (some ((false, ()), (a0, ()))) else bif a33.1 then X0 else bif (!a13.1) then X1 else (c183 (a0, (r0.1.1, ()))).bind fun r2 => let f0 := r2.2; let f1 := f0.1; let f2 := f1.2; let f3 := f2.2; let f4 := f3.2; let f5 := f4.2; let f6 := f5.2; let f7 := f6.2; let f8 := f7.2; let f9 := f8.2; let f10 := f9.2; let f11 := f10.2; let f12 := f11.2; let f13 := f12.2; let f14 := f13.2; let f15 := f14.2; let f16 := f15.2; let f17 := f16.2; let f18 := f17.2; let f19 := f18.2; let f20 := f19.2; let f21 := f20.2; let f22 := f21.2; let f23 := f22.2; let f24 := f23.2; let f25 := f24.2; let f26 := f25.2.2; let f27 := f26.2.2; let f28 := f27.2.2.2.2.2; (l0 ((7 : Int), ()) ((a1, (a3, (f3.1, (f4.1, (f5.1, (f6.1, (f7.1, (f8.1, (f9.1, (f10.1, (f11.1, (f12.1, (f13.1, (f14.1, (f15.1, (f16.1, (f17.1, (f18.1, (f19.1, (a23, (f21.1, (f22.1, (f23.1, (f24.1, (f25.1, (f25.2.1, (f26.1, (f26.2.1, (f27.1, (f27.2.1, (f27.2.2.1, (a35.1, (a36.1, f28))))))))))))))))))))))))))))))))), ()) ((0 : Int), ())).bind fun r3 => let g0 := r3.2; let g1 := g0.1; let g2 := g1.2; let g3 := g2.2; let g4 := g3.2; let g5 := g4.2; let g6 := g5.2; let g7 := g6.2; let g8 := g7.2; let g9 := g8.2; let g10 := g9.2; let g11 := g10.2; let g12 := g11.2; let g13 := g12.2; let g14 := g13.2; let g15 := g14.2; let g16 := g15.2; let g17 := g16.2; let g18 := g17.2; let g19 := g18.2; let g20 := g19.2; let g21 := g20.2; let g22 := g21.2; let g23 := g22.2; let g24 := g23.2; let g25 := g24.2; let g26 := g25.2; let g27 := g26.2; let g28 := g27.2; let g29 := g28.2; let g30 := g29.2.2; sumElim r3.1 (fun r4 => some ((true, ()), ((a1, (a3, (f3.1, (g4.1, (g5.1, (g6.1, (g7.1, (g8.1, (g9.1, (g10.1, (g11.1, (g12.1, (g13.1, (g14.1, (g15.1, (g16.1, (g17.1, (g18.1, (f19.1, (g20.1, (g21.1, (g22.1, (g23.1, (g24.1, (g25.1, (g26.1, (g27.1, (g28.1, (g29.1, (g29.2.1, ((wI (g30.1 + (1 : Int))), (g30.2.1, (g30.2.2.1, f28))))))))))))))))))))))))))))))))), ()))) (fun r4 => some ((false, ()), ((a1, (a3, (f3.1, (g4.1, (g5.1, (g6.1, (g7.1, (g8.1, (g9.1, (g10.1, (g11.1, (g12.1, (g13.1, (g14.1, (g15.1, (g16.1, (g17.1, (g18.1, (f19.1, (g20.1, (g21.1, (g22.1, (g23.1, (g24.1, (g25.1, (g26.1, (g27.1, (g28.1, (g29.1, (g29.2.1, (g30.1, (g30.2.1, (g30.2.2.1, f28))))))))))))))))))))))))))))))))), ())))) else bif (ltI (20000 : Int) (wI (a14.1 + r1.1.1))) then (some ((false, ()), (a0, ()))) else bif a33.1 then ((c182 ((a1, (a3, (a4.1, (a5.1, (a6.1, (a7.1, (a8.1, (a9.1, (a10.1, (a11.1, (a12.1, (a13.1, (a14.1, (a15.1, (a16.1, (a17.1, (a18.1, (a19.1, (a21, (a23, (a24.1, (a25.1, (a26.1, (a27.1, (a28.1, (a29.1, (a30.1, (a31.1, (a32.1, (false, a34)))))))))))))))))))))))))))))), ((65530 : Int), ()))).bind fun r2 => let f0 := r2.2; let f1 := f0.1; let f2 := f1.2; let f3 := f2.2; let f4 := f3.2; let f5 := f4.2; let f6 := f5.2; let f7 := f6.2; let f8 := f7.2; let f9 := f8.2; let f10 := f9.2; let f11 := f10.2; let f12 := f11.2; let f13 := f12.2; let f14 := f13.2; let f15 := f14.2; let f16 := f15.2; let f17 := f16.2; let f18 := f17.2; let f19 := f18.2; let f20 := f19.2; let f21 := f20.2; let f22 := f21.2; let f23 := f22.2.2; let f24 := f23.2.2; (l0 r1.1 ((a1, (a3, (f3.1, (f4.1, (f5.1, (f6.1, (f7.1, (f8.1, (f9.1, (f10.1, (f11.1, (f12.1, (f13.1, (f14.1, (f15.1, (f16.1, (f17.1, (f18.1, (a21, (a23, (f21.1, (f22.1, (f22.2.1, (f23.1, (f23.2.1, (f24.1, (f24.2.1, (f24.2.2.1, (f24.2.2.2.1, (f24.2.2.2.2.1, (f24.2.2.2.2.2.1, a35))))))))))))))))))))))))))))))), ()) ((0 : Int), ())).bind fun r3 => let g0 := r3.2; let g1 := g0.1; let g2 := g1.2; let g3 := g2.2; let g4 := g3.2; let g5 := g4.2; let g6 := g5.2; let g7 := g6.2; let g8 := g7.2; let g9 := g8.2; let g10 := g9.2; let g11 := g10.2; let g12 := g11.2; let g13 := g12.2; let g14 := g13.2; let g15 := g14.2; let g16 := g15.2; let g17 := g16.2; let g18 := g17.2; let g19 := g18.2; let g20 := g19.2; let g21 := g20.2; let g22 := g21.2; let g23 := g22.2; let g24 := g23.2; let g25 := g24.2; let g26 := g25.2; let g27 := g26.2; let g28 := g27.2; let g29 := g28.2; let g30 := g29.2.2; sumElim r3.1 (fun r4 => some ((true, ()), ((a1, (a3, (f3.1, (g4.1, (g5.1, (g6.1, (g7.1, (g8.1, (g9.1, (g10.1, (g11.1, (g12.1, (g13.1, (g14.1, (g15.1, (g16.1, (g17.1, (g18.1, (a21, (g20.1, (g21.1, (g22.1, (g23.1, (g24.1, (g25.1, (g26.1, (g27.1, (g28.1, (g29.1, (g29.2.1, ((wI (g30.1 + (1 : Int))), (g30.2.1, (g30.2.2.1, a37))))))))))))))))))))))))))))))))), ()))) (fun r4 => some ((false, ()), ((a1, (a3, (f3.1, (g4.1, (g5.1, (g6.1, (g7.1, (g8.1, (g9.1, (g10.1, (g11.1, (g12.1, (g13.1, (g14.1, (g15.1, (g16.1, (g17.1, (g18.1, (a21, (g20.1, (g21.1, (g22.1, (g23.1, (g24.1, (g25.1, (g26.1, (g27.1, (g28.1, (g29.1, (g29.2.1, (g30.1, (g30.2.1, (g30.2.2.1, a37))))))))))))))))))))))))))))))))), ())))) else bif (!a13.1) then ((c182 (a0, ((65534 : Int), ()))).bind fun r2 => let f0 := r2.2; let f1 := f0.1; let f2 := f1.2; let f3 := f2.2; let f4 := f3.2; let f5 := f4.2; let f6 := f5.2; let f7 := f6.2; let f8 := f7.2; let f9 := f8.2; let f10 := f9.2; let f11 := f10.2; let f12 := f11.2; let f13 := f12.2; let f14 := f13.2; let f15 := f14.2; let f16 := f15.2; let f17 := f16.2; let f18 := f17.2; let f19 := f18.2; let f20 := f19.2; let f21 := f20.2; let f22 := f21.2; let f23 := f22.2.2; let f24 := f23.2.2; (l0 r1.1 ((a1, (a3, (f3.1, (f4.1, (f5.1, (f6.1, (f7.1, (f8.1, (f9.1, (f10.1, (f11.1, (f12.1, (f13.1, (f14.1, (f15.1, (f16.1, (f17.1, (f18.1, (a21, (a23, (f21.1, (f22.1, (f22.2.1, (f23.1, (f23.2.1, (f24.1, (f24.2.1, (f24.2.2.1, (f24.2.2.2.1, (f24.2.2.2.2.1, (f24.2.2.2.2.2.1, a35))))))))))))))))))))))))))))))), ()) ((0 : Int), ())).bind fun r3 => let g0 := r3.2; let g1 := g0.1; let g2 := g1.2; let g3 := g2.2; let g4 := g3.2; let g5 := g4.2; let g6 := g5.2; let g7 := g6.2; let g8 := g7.2; let g9 := g8.2; let g10 := g9.2; let g11 := g10.2; let g12 := g11.2; let g13 := g12.2; let g14 := g13.2; let g15 := g14.2; let g16 := g15.2; let g17 := g16.2; let g18 := g17.2; let g19 := g18.2; let g20 := g19.2; let g21 := g20.2; let g22 := g21.2; let g23 := g22.2; let g24 := g23.2; let g25 := g24.2; let g26 := g25.2; let g27 := g26.2; let g28 := g27.2; let g29 := g28.2; let g30 := g29.2.2; sumElim r3.1 (fun r4 => some ((true, ()), ((a1, (a3, (f3.1, (g4.1, (g5.1, (g6.1, (g7.1, (g8.1, (g9.1, (g10.1, (g11.1, (g12.1, (g13.1, (g14.1, (g15.1, (g16.1, (g17.1, (g18.1, (a21, (g20.1, (g21.1, (g22.1, (g23.1, (g24.1, (g25.1, (g26.1, (g27.1, (g28.1, (g29.1, (g29.2.1, ((wI (g30.1 + (1 : Int))), (g30.2.1, (g30.2.2.1, a37))))))))))))))))))))))))))))))))), ()))) (fun r4 => some ((false, ()), ((a1, (a3, (f3.1, (g4.1, (g5.1, (g6.1, (g7.1, (g8.1, (g9.1, (g10.1, (g11.1, (g12.1, (g13.1, (g14.1, (g15.1, (g16.1, (g17.1, (g18.1, (a21, (g20.1, (g21.1, (g22.1, (g23.1, (g24.1, (g25.1, (g26.1, (g27.1, (g28.1, (g29.1, (g29.2.1, (g30.1, (g30.2.1, (g30.2.2.1, a37))))))))))))))))))))))))))))))))), ())))) else (c183 (a0, (r0.1.1, ()))).bind fun r2 => let f0 := r2.2; let f1 := f0.1; let f2 := f1.2; let f3 := f2.2; let f4 := f3.2; let f5 := f4.2; let f6 := f5.2; let f7 := f6.2; let f8 := f7.2; let f9 := f8.2; let f10 := f9.2; let f11 := f10.2; let f12 := f11.2; let f13 := f12.2; let f14 := f13.2; let f15 := f14.2; let f16 := f15.2; let f17 := f16.2; let f18 := f17.2; let f19 := f18.2; let f20 := f19.2; let f21 := f20.2; let f22 := f21.2; let f23 := f22.2; let f24 := f23.2; let f25 := f24.2; let f26 := f25.2.2; let f27 := f26.2.2; let f28 := f27.2.2.2.2.2; (l0 r1.1 ((a1, (a3, (f3.1, (f4.1, (f5.1, (f6.1, (f7.1, (f8.1, (f9.1, (f10.1, (f11.1, (f12.1, (f13.1, (f14.1, (f15.1, (f16.1, (f17.1, (f18.1, (f19.1, (a23, (f21.1, (f22.1, (f23.1, (f24.1, (f25.1, (f25.2.1, (f26.1, (f26.2.1, (f27.1, (f27.2.1, (f27.2.2.1, (a35.1, (a36.1, f28))))))))))))))))))))))))))))))))), ()) ((0 : Int), ())).bind fun r3 => let g0 := r3.2; let g1 := g0.1; let g2 := g1.2; let g3 := g2.2; let g4 := g3.2; let g5 := g4.2; let g6 := g5.2; let g7 := g6.2; let g8 := g7.2; let g9 := g8.2; let g10 := g9.2; let g11 := g10.2; let g12 := g11.2; let g13 := g12.2; let g14 := g13.2; let g15 := g14.2; let g16 := g15.2; let g17 := g16.2; let g18 := g17.2; let g19 := g18.2; let g20 := g19.2; let g21 := g20.2; let g22 := g21.2; let g23 := g22.2; let g24 := g23.2; let g25 := g24.2; let g26 := g25.2; let g27 := g26.2; let g28 := g27.2; let g29 := g28.2; let g30 := g29.2.2; sumElim r3.1 (fun r4 => some ((true, ()), ((a1, (a3, (f3.1, (g4.1, (g5.1, (g6.1, (g7.1, (g8.1, (g9.1, (g10.1, (g11.1, (g12.1, (g13.1, (g14.1, (g15.1, (g16.1, (g17.1, (g18.1, (f19.1, (g20.1, (g21.1, (g22.1, (g23.1, (g24.1, (g25.1, (g26.1, (g27.1, (g28.1, (g29.1, (g29.2.1, ((wI (g30.1 + (1 : Int))), (g30.2.1, (g30.2.2.1, f28))))))))))))))))))))))))))))))))), ()))) (fun r4 => some ((false, ()), ((a1, (a3, (f3.1, (g4.1, (g5.1, (g6.1, (g7.1, (g8.1, (g9.1, (g10.1, (g11.1, (g12.1, (g13.1, (g14.1, (g15.1, (g16.1, (g17.1, (g18.1, (f19.1, (g20.1, (g21.1, (g22.1, (g23.1, (g24.1, (g25.1, (g26.1, (g27.1, (g28.1, (g29.1, (g29.2.1, (g30.1, (g30.2.1, (g30.2.2.1, f28))))))))))))))))))))))))))))))))), ())))) else (c180 ((a1, ()), ((a4.1, (a5.1, ())), (a9.1, ())))).bind fun r0 => (c181 (r0.1.1.1, ())).bind fun r1 => bif (ltI (20000 : Int) (wI (a14.1 + r1.1.1))) then (some ((false, ()), (a0, ()))) else bif a33.1 then ((c182 ((a1, (a3, (a4.1, (a5.1, (a6.1, (a7.1, (a8.1, (a9.1, (a10.1, (a11.1, (a12.1, (a13.1, (a14.1, (a15.1, (a16.1, (a17.1, (a18.1, (a19.1, (a21, (a23, (a24.1, (a25.1, (a26.1, (a27.1, (a28.1, (a29.1, (a30.1, (a31.1, (a32.1, (false, a34)))))))))))))))))))))))))))))), ((65530 : Int), ()))).bind fun r2 => let f0 := r2.2; let f1 := f0.1; let f2 := f1.2; let f3 := f2.2; let f4 := f3.2; let f5 := f4.2; let f6 := f5.2; let f7 := f6.2; let f8 := f7.2; let f9 := f8.2; let f10 := f9.2; let f11 := f10.2; let f12 := f11.2; let f13 := f12.2; let f14 := f13.2; let f15 := f14.2; let f16 := f15.2; let f17 := f16.2; let f18 := f17.2; let f19 := f18.2; let f20 := f19.2; let f21 := f20.2; let f22 := f21.2; let f23 := f22.2.2; let f24 := f23.2.2; (l0 r1.1 ((a1, (a3, (f3.1, (f4.1, (f5.1, (f6.1, (f7.1, (f8.1, (f9.1, (f10.1, (f11.1, (f12.1, (f13.1, (f14.1, (f15.1, (f16.1, (f17.1, (f18.1, (a21, (a23, (f21.1, (f22.1, (f22.2.1, (f23.1, (f23.2.1, (f24.1, (f24.2.1, (f24.2.2.1, (f24.2.2.2.1, (f24.2.2.2.2.1, (f24.2.2.2.2.2.1, a35))))))))))))))))))))))))))))))), ()) ((0 : Int), ())).bind fun r3 => let g0 := r3.2; let g1 := g0.1; let g2 := g1.2; let g3 := g2.2; let g4 := g3.2; let g5 := g4.2; let g6 := g5.2; let g7 := g6.2; let g8 := g7.2; let g9 := g8.2; let g10 := g9.2; let g11 := g10.2; let g12 := g11.2; let g13 := g12.2; let g14 := g13.2; let g15 := g14.2; let g16 := g15.2; let g17 := g16.2; let g18 := g17.2; let g19 := g18.2; let g20 := g19.2; let g21 := g20.2; let g22 := g21.2; let g23 := g22.2; let g24 := g23.2; let g25 := g24.2; let g26 := g25.2; let g27 := g26.2; let g28 := g27.2; let g29 := g28.2; let g30 := g29.2.2; sumElim r3.1 (fun r4 => some ((true, ()), ((a1, (a3, (f3.1, (g4.1, (g5.1, (g6.1, (g7.1, (g8.1, (g9.1, (g10.1, (g11.1, (g12.1, (g13.1, (g14.1, (g15.1, (g16.1, (g17.1, (g18.1, (a21, (g20.1, (g21.1, (g22.1, (g23.1, (g24.1, (g25.1, (g26.1, (g27.1, (g28.1, (g29.1, (g29.2.1, ((wI (g30.1 + (1 : Int))), (g30.2.1, (g30.2.2.1, a37))))))))))))))))))))))))))))))))), ()))) (fun r4 => some ((false, ()), ((a1, (a3, (f3.1, (g4.1, (g5.1, (g6.1, (g7.1, (g8.1, (g9.1, (g10.1, (g11.1, (g12.1, (g13.1, (g14.1, (g15.1, (g16.1, (g17.1, (g18.1, (a21, (g20.1, (g21.1, (g22.1, (g23.1, (g24.1, (g25.1, (g26.1, (g27.1, (g28.1, (g29.1, (g29.2.1, (g30.1, (g30.2.1, (g30.2.2.1, a37))))))))))))))))))))))))))))))))), ())))) else (c183 (a0, (r0.1.1, ()))).bind fun r2 => let f0 := r2.2; let f1 := f0.1; let f2 := f1.2; let f3 := f2.2; let f4 := f3.2; let f5 := f4.2; let f6 := f5.2; let f7 := f6.2; let f8 := f7.2; let f9 := f8.2; let f10 := f9.2; let f11 := f10.2; let f12 := f11.2; let f13 := f12.2; let f14 := f13.2; let f15 := f14.2; let f16 := f15.2; let f17 := f16.2; let f18 := f17.2; let f19 := f18.2; let f20 := f19.2; let f21 := f20.2; let f22 := f21.2; let f23 := f22.2; let f24 := f23.2; let f25 := f24.2; let f26 := f25.2.2; let f27 := f26.2.2; let f28 := f27.2.2.2.2.2; (l0 r1.1 ((a1, (a3, (f3.1, (f4.1, (f5.1, (f6.1, (f7.1, (f8.1, (f9.1, (f10.1, (f11.1, (f12.1, (f13.1, (f14.1, (f15.1, (f16.1, (f17.1, (f18.1, (f19.1, (a23, (f21.1, (f22.1, (f23.1, (f24.1, (f25.1, (f25.2.1, (f26.1, (f26.2.1, (f27.1, (f27.2.1, (f27.2.2.1, (a35.1, (a36.1, f28))))))))))))))))))))))))))))))))), ()) ((0 : Int), ())).bind fun r3 => let g0 := r3.2; let g1 := g0.1; let g2 := g1.2; let g3 := g2.2; let g4 := g3.2; let g5 := g4.2; let g6 := g5.2; let g7 := g6.2; let g8 := g7.2; let g9 := g8.2; let g10 := g9.2; let g11 := g10.2; let g12 := g11.2; let g13 := g12.2; let g14 := g13.2; let g15 := g14.2; let g16 := g15.2; let g17 := g16.2; let g18 := g17.2; let g19 := g18.2; let g20 := g19.2; let g21 := g20.2; let g22 := g21.2; let g23 := g22.2; let g24 := g23.2; let g25 := g24.2; let g26 := g25.2; let g27 := g26.2; let g28 := g27.2; let g29 := g28.2; let g30 := g29.2.2; sumElim r3.1 (fun r4 => some ((true, ()), ((a1, (a3, (f3.1, (g4.1, (g5.1, (g6.1, (g7.1, (g8.1, (g9.1, (g10.1, (g11.1, (g12.1, (g13.1, (g14.1, (g15.1, (g16.1, (g17.1, (g18.1, (f19.1, (g20.1, (g21.1, (g22.1, (g23.1, (g24.1, (g25.1, (g26.1, (g27.1, (g28.1, (g29.1, (g29.2.1, ((wI (g30.1 + (1 : Int))), (g30.2.1, (g30.2.2.1, f28))))))))))))))))))))))))))))))))), ()))) (fun r4 => some ((false, ()), ((a1, (a3, (f3.1, (g4.1, (g5.1, (g6.1, (g7.1, (g8.1, (g9.1, (g10.1, (g11.1, (g12.1, (g13.1, (g14.1, (g15.1, (g16.1, (g17.1, (g18.1, (f19.1, (g20.1, (g21.1, (g22.1, (g23.1, (g24.1, (g25.1, (g26.1, (g27.1, (g28.1, (g29.1, (g29.2.1, (g30.1, (g30.2.1, (g30.2.2.1, f28))))))))))))))))))))))))))))))))), ())))
noncomputable def E96 (c182 : F182) (c183 : F183) (c184 : F184) (c181 : F181) (c180 : F180) (l0 : A96_0) : CEnv := ⟨⟨Tryz.prog, fnsL [g182 c182, g183 c183, g184 c184, g181 c181, g180 c180]⟩, loopsL [(15, e96_0 l0)]⟩
theorem t96_0 (c182 : F182) (c183 : F183) (c184 : F184) (c181 : F181) (c180 : F180) (l0 : A96_0) (again) (x y z) : loopRound (E96 c182 c183 c184 c181 c180 l0) (loopAt (bodyOf Tryz.f96) 0) (e96_0 l0) Tryz.f96.ntmps again x y z = w96_0 c182 c183 c184 c181 c180  again x y z := by kernel_rfl
noncomputable def n96_0 (c182 : F182) (c183 : F183) (c184 : F184) (c181 : F181) (c180 : F180)  : Nat → A96_0
  | 0, _, _, _ => none
  | n + 1, x, y, z => w96_0 c182 c183 c184 c181 c180  (fun y z => n96_0 c182 c183 c184 c181 c180  n x y z) x y z
theorem s96 (c182 : F182) (c183 : F183) (c184 : F184) (c181 : F181) (c180 : F180) (l0 : A96_0) (y) : tevF (E96 c182 c183 c184 c181 c180 l0) Tryz.f96 i96 o96 y = m96 c182 c183 c184 c181 c180 l0 y := by kernel_rfl
noncomputable def L96_0 : A96_0 := n96_0 r182 r183 r184 r181 r180  fuel
noncomputable def r96 : F96 := m96 r182 r183 r184 r181 r180 L96_0
theorem k96 : CK Tryz.prog (g96 r96) := by
  have hE : ∀ g f, (E96 r182 r183 r184 r181 r180 L96_0).env.fns g = some f → CallOk Tryz.prog g f := fnsL_ok ⟨k182, k183, k184, k181, k180, trivial⟩
  have h0 : LoopOk Tryz.prog Tryz.f96.ntmps (loopAt (bodyOf Tryz.f96) 0) (e96_0 L96_0) := lp_ok (E := E96 r182 r183 r184 r181 r180 L96_0) rfl hE mixed (AllLoops.of_list (l := []) (by kernel_rfl) trivial) (n96_0 r182 r183 r184 r181 r180 ) (fun _ _ _ => rfl) (fun n x y z => t96_0 r182 r183 r184 r181 r180 L96_0 _ x y z) rfl
  exact fn_ok (E := E96 r182 r183 r184 r181 r180 L96_0) rfl hE mixed (by kernel_rfl) (by kernel_rfl) (AllLoops.of_list (l := [(loopAt (bodyOf Tryz.f96) 0)]) (by kernel_rfl) (.one (by kernel_rfl) h0 trivial)) (s96 r182 r183 r184 r181 r180 L96_0)
@[reducible] def i25 : List Ty := [.a q13, .v (.int .i64)]
@[reducible] def o25 : List Ty := [.a q14, .v (.int .i64)]
abbrev R25 := Option (PTup o25 × BTup i25)
abbrev F25 := PTup i25 → R25
abbrev g25 (c : F25) : Nat × Tev.Fn := (25, ⟨i25, o25, c, .nor⟩)
@[reducible] def lc25_0 : List Ty := [.v (.int .i64)]
@[reducible] def lb25_0 : List Ty := [.p q17]
@[reducible] def lv25_0 : List Ty := [.v (.int .i64)]
@[reducible] def lr25_0 : List Ty := []
abbrev R25_0 := Option (Sum (PTup lv25_0) (PTup lr25_0) × BTup lb25_0)
abbrev B25_0 := PTup lb25_0 → PTup lv25_0 → R25_0
abbrev A25_0 := PTup lc25_0 → B25_0
noncomputable def w25_0 (c96 : F96) (c94 : F94) (c95 : F95)  (again : B25_0) (x : PTup lc25_0) (y : PTup lb25_0) (z : PTup lv25_0) : R25_0 :=
  bif (ltI z.1 (mnI x.1 (3000 : Int))) then ((c96 (y.1, ())).bind fun r0 =>
   bif (!r0.1.1) then (some ((Sum.inl z), ((y.1.1, (y.1.2.1, r0.2.1.2.2)), ())))
   else again ((y.1.1, (y.1.2.1, r0.2.1.2.2)), ()) ((wI (z.1 + (1 : Int))), ()))
  else some ((Sum.inl z), (y.1, ()))
noncomputable def e25_0 (l : A25_0) : LoopE := ⟨[1], lc25_0, [6], lb25_0, [7], lv25_0, [], lr25_0, 0, [], l⟩
noncomputable def m25 (c96 : F96) (c94 : F94) (c95 : F95) (l0 : A25_0) (y : PTup i25) : Option (PTup o25 × BTup i25) :=
  let X0 : R25 := some ((([], ([], ([], ((0 : Int), ((0 : Int), ((0 : Int), ((0 : Int), ((0 : Int), (false, (false, (false, (false, ((0 : Int), ((0 : Int), ((0 : Int), ((0 : Int), ((0 : Int), (false, ([], ([], ((0 : Int), ((0 : Int), ((0 : Int), ((0 : Int), ((0 : Int), (false, (false, (false, ((0 : Int), (false, ((0 : Int), ([], ([], ([], ())))))))))))))))))))))))))))))))))), ((0 : Int), ())), ()); (c94 (y.1, ())).bind fun r0 => bif (!r0.1.1) then X0 else (c95 (y.1, ())).bind fun r1 => (l0 y.2 (r1.1.1, ()) ((0 : Int), ())).bind fun r2 => sumElim r2.1 (fun r3 => some (((r1.1.1.1, (r1.1.1.2.1, r2.2.1.2.2)), r3), ())) (fun r3 => X0)
noncomputable def E25 (c96 : F96) (c94 : F94) (c95 : F95) (l0 : A25_0) : CEnv := ⟨⟨Tryz.prog, fnsL [g96 c96, g94 c94, g95 c95]⟩, loopsL [(5, e25_0 l0)]⟩
theorem t25_0 (c96 : F96) (c94 : F94) (c95 : F95) (l0 : A25_0) (again) (x y z) : loopRound (E25 c96 c94 c95 l0) (loopAt (bodyOf Tryz.f25) 0) (e25_0 l0) Tryz.f25.ntmps again x y z = w25_0 c96 c94 c95  again x y z := by kernel_rfl
noncomputable def n25_0 (c96 : F96) (c94 : F94) (c95 : F95)  : Nat → A25_0
  | 0, _, _, _ => none
  | n + 1, x, y, z => w25_0 c96 c94 c95  (fun y z => n25_0 c96 c94 c95  n x y z) x y z
theorem s25 (c96 : F96) (c94 : F94) (c95 : F95) (l0 : A25_0) (y) : tevF (E25 c96 c94 c95 l0) Tryz.f25 i25 o25 y = m25 c96 c94 c95 l0 y := by kernel_rfl
noncomputable def L25_0 : A25_0 := n25_0 r96 r94 r95  fuel
noncomputable def r25 : F25 := m25 r96 r94 r95 L25_0
theorem k25 : CK Tryz.prog (g25 r25) := by
  have hE : ∀ g f, (E25 r96 r94 r95 L25_0).env.fns g = some f → CallOk Tryz.prog g f := fnsL_ok ⟨k96, k94, k95, trivial⟩
  have h0 : LoopOk Tryz.prog Tryz.f25.ntmps (loopAt (bodyOf Tryz.f25) 0) (e25_0 L25_0) := lp_ok (E := E25 r96 r94 r95 L25_0) rfl hE mixed (AllLoops.of_list (l := []) (by kernel_rfl) trivial) (n25_0 r96 r94 r95 ) (fun _ _ _ => rfl) (fun n x y z => t25_0 r96 r94 r95 L25_0 _ x y z) rfl
  exact fn_ok (E := E25 r96 r94 r95 L25_0) rfl hE mixed (by kernel_rfl) (by kernel_rfl) (AllLoops.of_list (l := [(loopAt (bodyOf Tryz.f25) 0)]) (by kernel_rfl) (.one (by kernel_rfl) h0 trivial)) (s25 r96 r94 r95 L25_0)
@[reducible] def i207 : List Ty := []
@[reducible] def o207 : List Ty := [.a q7]
abbrev R207 := Option (PTup o207 × BTup i207)
abbrev F207 := PTup i207 → R207
abbrev g207 (c : F207) : Nat × Tev.Fn := (207, ⟨i207, o207, c, .nor⟩)
noncomputable def m207   (y : PTup i207) : Option (PTup o207 × BTup i207) :=
  some ((((List.replicate (Int.toNat (512 : Int)) (0 : Int)), ((0 : Int), ())), ()), ())
noncomputable def E207  := mkE []
theorem s207   (y) : tevF (E207  ) Tryz.f207 i207 o207 y = m207   y := by kernel_rfl
noncomputable def r207 : F207 := m207  
theorem k207 : CK Tryz.prog (g207 r207) := fn0 (s207 ) (fnsL_ok trivial) rfl mixed (by kernel_rfl) (by kernel_rfl) (by kernel_rfl)
@[reducible] def i208 : List Ty := [.a q0]
@[reducible] def o208 : List Ty := [.a q8]
abbrev R208 := Option (PTup o208 × BTup i208)
abbrev F208 := PTup i208 → R208
abbrev g208 (c : F208) : Nat × Tev.Fn := (208, ⟨i208, o208, c, .nor⟩)
noncomputable def m208 (c259 : F259) (c207 : F207) (c257 : F257)  (y : PTup i208) : Option (PTup o208 × BTup i208) :=
  (c207 ()).bind fun r0 =>
  (c257 (y.1, (r0.1.1, ((65532 : Int), ())))).bind fun r1 =>
  (c257 (y.1, (r0.1.1, ((65533 : Int), ())))).bind fun r2 =>
  (c259 (r1.1.1, r2.1)).bind fun r3 =>
  some ((((0 : Int), ((0 : Int), ((255 : Int), (r3.1.1, (false, (false, (false, (true, ())))))))), ()), ())
noncomputable def E208 (c259 : F259) (c207 : F207) (c257 : F257) := mkE [g259 c259, g207 c207, g257 c257]
theorem s208 (c259 : F259) (c207 : F207) (c257 : F257)  (y) : tevF (E208 c259 c207 c257 ) Tryz.f208 i208 o208 y = m208 c259 c207 c257  y := by kernel_rfl
noncomputable def r208 : F208 := m208 r259 r207 r257 
theorem k208 : CK Tryz.prog (g208 r208) := fn0 (s208 r259 r207 r257) (fnsL_ok ⟨k259, k207, k257, trivial⟩) rfl mixed (by kernel_rfl) (by kernel_rfl) (by kernel_rfl)
@[reducible] def i209 : List Ty := []
@[reducible] def o209 : List Ty := [.a q10]
abbrev R209 := Option (PTup o209 × BTup i209)
abbrev F209 := PTup i209 → R209
abbrev g209 (c : F209) : Nat × Tev.Fn := (209, ⟨i209, o209, c, .nor⟩)
noncomputable def m209   (y : PTup i209) : Option (PTup o209 × BTup i209) :=
  some ((((0 : Int), ((0 : Int), ((0 : Int), ((0 : Int), ((0 : Int), (false, ((List.replicate (Int.toNat (16 : Int)) (0 : Int)), ([], ())))))))), ()), ())
noncomputable def E209  := mkE []
theorem s209   (y) : tevF (E209  ) Tryz.f209 i209 o209 y = m209   y := by kernel_rfl
noncomputable def r209 : F209 := m209  
theorem k209 : CK Tryz.prog (g209 r209) := fn0 (s209 ) (fnsL_ok trivial) rfl mixed (by kernel_rfl) (by kernel_rfl) (by kernel_rfl)
@[reducible] def i108 : List Ty := [.a q0, .v (.sl false .i)]
@[reducible] def o108 : List Ty := [.a q14, .v (.bool)]
abbrev R108 := Option (PTup o108 × BTup i108)
abbrev F108 := PTup i108 → R108
abbrev g108 (c : F108) : Nat × Tev.Fn := (108, ⟨i108, o108, c, .nor⟩)
noncomputable def m108 (c208 : F208) (c87 : F87) (c207 : F207) (c209 : F209) (c132 : F132)  (y : PTup i108) : Option (PTup o108 × BTup i108) :=
  (c132 (y.1, ())).bind fun r0 =>
  bif (leN (0 + (List.length y.2.1)) (E.most .i)) then ((c207 ()).bind fun r1 =>
   (c208 (y.1, ())).bind fun r2 =>
   (c209 ()).bind fun r3 =>
   (c87 ((r0.1.1.1, (([] ++ y.2.1), (r1.1.1.1, (r1.1.1.2.1, (r2.1.1.1, (r2.1.1.2.1, (r2.1.1.2.2.1, (r2.1.1.2.2.2.1, (r2.1.1.2.2.2.2.1, (r2.1.1.2.2.2.2.2.1, (r2.1.1.2.2.2.2.2.2.1, (r2.1.1.2.2.2.2.2.2.2.1, (r3.1.1.1, (r3.1.1.2.1, (r3.1.1.2.2.1, (r3.1.1.2.2.2.1, (r3.1.1.2.2.2.2.1, (r3.1.1.2.2.2.2.2.1, (r3.1.1.2.2.2.2.2.2.1, (r3.1.1.2.2.2.2.2.2.2.1, ((0 : Int), ((0 : Int), ((0 : Int), ((0 : Int), ((0 : Int), (false, (false, (false, ((0 : Int), (false, ((0 : Int), ([], ([], ([], ())))))))))))))))))))))))))))))))))), ())).bind fun r4 =>
   bif (!r4.1.1) then (some ((([], ([], ([], ((0 : Int), ((0 : Int), ((0 : Int), ((0 : Int), ((0 : Int), (false, (false, (false, (false, ((0 : Int), ((0 : Int), ((0 : Int), ((0 : Int), ((0 : Int), (false, ([], ([], ((0 : Int), ((0 : Int), ((0 : Int), ((0 : Int), ((0 : Int), (false, (false, (false, ((0 : Int), (false, ((0 : Int), ([], ([], ([], ())))))))))))))))))))))))))))))))))), (false, ())), ()))
   else some (((r0.1.1.1, (([] ++ y.2.1), (r1.1.1.1, (r1.1.1.2.1, (r2.1.1.1, (r2.1.1.2.1, (r2.1.1.2.2.1, (r2.1.1.2.2.2.1, (r2.1.1.2.2.2.2.1, (r2.1.1.2.2.2.2.2.1, (r2.1.1.2.2.2.2.2.2.1, (r2.1.1.2.2.2.2.2.2.2.1, (r3.1.1.1, (r3.1.1.2.1, (r3.1.1.2.2.1, (r3.1.1.2.2.2.1, (r3.1.1.2.2.2.2.1, (r3.1.1.2.2.2.2.2.1, (r3.1.1.2.2.2.2.2.2.1, (r3.1.1.2.2.2.2.2.2.2.1, ((0 : Int), ((0 : Int), ((0 : Int), ((0 : Int), ((0 : Int), (false, (false, (false, ((0 : Int), (false, ((0 : Int), ([], ([], ([], ())))))))))))))))))))))))))))))))))), (true, ())), ()))
  else none
noncomputable def E108 (c208 : F208) (c87 : F87) (c207 : F207) (c209 : F209) (c132 : F132) := mkE [g208 c208, g87 c87, g207 c207, g209 c209, g132 c132]
theorem s108 (c208 : F208) (c87 : F87) (c207 : F207) (c209 : F209) (c132 : F132)  (y) : tevF (E108 c208 c87 c207 c209 c132 ) Tryz.f108 i108 o108 y = m108 c208 c87 c207 c209 c132  y := by kernel_rfl
noncomputable def r108 : F108 := m108 r208 r87 r207 r209 r132 
theorem k108 : CK Tryz.prog (g108 r108) := fn0 (s108 r208 r87 r207 r209 r132) (fnsL_ok ⟨k208, k87, k207, k209, k132, trivial⟩) rfl mixed (by kernel_rfl) (by kernel_rfl) (by kernel_rfl)
@[reducible] def i31 : List Ty := [.a q6]
@[reducible] def o31 : List Ty := [.a q14]
abbrev R31 := Option (PTup o31 × BTup i31)
abbrev F31 := PTup i31 → R31
abbrev g31 (c : F31) : Nat × Tev.Fn := (31, ⟨i31, o31, c, .nor⟩)
noncomputable def m31 (c108 : F108) (c23 : F23) (c59 : F59)  (y : PTup i31) : Option (PTup o31 × BTup i31) :=
  let X0 : R31 := some ((([], ([], ([], ((0 : Int), ((0 : Int), ((0 : Int), ((0 : Int), ((0 : Int), (false, (false, (false, (false, ((0 : Int), ((0 : Int), ((0 : Int), ((0 : Int), ((0 : Int), (false, ([], ([], ((0 : Int), ((0 : Int), ((0 : Int), ((0 : Int), ((0 : Int), (false, (false, (false, ((0 : Int), (false, ((0 : Int), ([], ([], ([], ())))))))))))))))))))))))))))))))))), ()), ()); (c59 (y.1, ())).bind fun r0 => bif (!r0.1.1) then X0 else bif (ltI (3000 : Int) y.1.2.2.2.2.2.2.2.2.2.2.2.2.2.2.2.2.2.2.2.1) then X0 else (c108 ((y.1.1, ()), (y.1.2.1, ()))).bind fun r1 => (c23 (r1.1.1, (y.1.2.2.2.2.2.2.2.2.2.2.2.2.2.2.2.2.2.2.2.1, ()))).bind fun r2 => some ((r2.1.1, ()), ())
noncomputable def E31 (c108 : F108) (c23 : F23) (c59 : F59) := mkE [g108 c108, g23 c23, g59 c59]
theorem s31 (c108 : F108) (c23 : F23) (c59 : F59)  (y) : tevF (E31 c108 c23 c59 ) Tryz.f31 i31 o31 y = m31 c108 c23 c59  y := by kernel_rfl
noncomputable def r31 : F31 := m31 r108 r23 r59 
theorem k31 : CK Tryz.prog (g31 r31) := fn0 (s31 r108 r23 r59) (fnsL_ok ⟨k108, k23, k59, trivial⟩) rfl mixed (by kernel_rfl) (by kernel_rfl) (by kernel_rfl)
@[reducible] def i109 : List Ty := [.a q6]
@[reducible] def o109 : List Ty := [.v (.bool)]
abbrev R109 := Option (PTup o109 × BTup i109)
abbrev F109 := PTup i109 → R109
abbrev g109 (c : F109) : Nat × Tev.Fn := (109, ⟨i109, o109, c, .nor⟩)
noncomputable def m109 (c69 : F69)  (y : PTup i109) : Option (PTup o109 × BTup i109) :=
  (c69 (y.1, ())).bind fun r0 =>
  bif r0.1.1 then (some (((leI y.1.2.2.2.2.2.2.2.2.2.2.2.2.2.2.2.2.2.2.2.1 (3000 : Int)), ()), ()))
  else some ((false, ()), ())
noncomputable def E109 (c69 : F69) := mkE [g69 c69]
theorem s109 (c69 : F69)  (y) : tevF (E109 c69 ) Tryz.f109 i109 o109 y = m109 c69  y := by kernel_rfl
noncomputable def r109 : F109 := m109 r69 
theorem k109 : CK Tryz.prog (g109 r109) := fn0 (s109 r69) (fnsL_ok ⟨k69, trivial⟩) rfl mixed (by kernel_rfl) (by kernel_rfl) (by kernel_rfl)
@[reducible] def i210 : List Ty := []
@[reducible] def o210 : List Ty := [.a q7]
abbrev R210 := Option (PTup o210 × BTup i210)
abbrev F210 := PTup i210 → R210
abbrev g210 (c : F210) : Nat × Tev.Fn := (210, ⟨i210, o210, c, .nor⟩)
noncomputable def m210   (y : PTup i210) : Option (PTup o210 × BTup i210) :=
  some ((((List.replicate (Int.toNat (512 : Int)) (0 : Int)), ((0 : Int), ())), ()), ())
noncomputable def E210  := mkE []
theorem s210   (y) : tevF (E210  ) Tryz.f210 i210 o210 y = m210   y := by kernel_rfl
noncomputable def r210 : F210 := m210  
theorem k210 : CK Tryz.prog (g210 r210) := fn0 (s210 ) (fnsL_ok trivial) rfl mixed (by kernel_rfl) (by kernel_rfl) (by kernel_rfl)
@[reducible] def i315 : List Ty := [.a q0, .a q1, .v (.int .i64)]
@[reducible] def o315 : List Ty := [.v (.int .i64)]
abbrev R315 := Option (PTup o315 × BTup i315)
abbrev F315 := PTup i315 → R315
abbrev g315 (c : F315) : Nat × Tev.Fn := (315, ⟨i315, o315, c, .nor⟩)
noncomputable def m315 (c151 : F151) (c247 : F247)  (y : PTup i315) : Option (PTup o315 × BTup i315) :=
  (c151 (y.1, (y.2.1, ()))).bind fun r0 =>
  bif (!r0.1.1) then (some (((0 : Int), ()), ()))
  else (c247 y).bind fun r1 =>
  some (r1.1, ())
noncomputable def E315 (c151 : F151) (c247 : F247) := mkE [g151 c151, g247 c247]
theorem s315 (c151 : F151) (c247 : F247)  (y) : tevF (E315 c151 c247 ) Tryz.f315 i315 o315 y = m315 c151 c247  y := by kernel_rfl
noncomputable def r315 : F315 := m315 r151 r247 
theorem k315 : CK Tryz.prog (g315 r315) := fn0 (s315 r151 r247) (fnsL_ok ⟨k151, k247, trivial⟩) rfl mixed (by kernel_rfl) (by kernel_rfl) (by kernel_rfl)
@[reducible] def i282 : List Ty := [.a q0, .a q1, .v (.int .i64)]
@[reducible] def o282 : List Ty := [.v (.int .i64)]
abbrev R282 := Option (PTup o282 × BTup i282)
abbrev F282 := PTup i282 → R282
abbrev g282 (c : F282) : Nat × Tev.Fn := (282, ⟨i282, o282, c, .nor⟩)
noncomputable def m282 (c249 : F249) (c315 : F315)  (y : PTup i282) : Option (PTup o282 × BTup i282) :=
  (c315 y).bind fun r0 =>
  (c315 (y.1, (y.2.1, ((wI (y.2.2.1 + (1 : Int))), ())))).bind fun r1 =>
  (c249 (r0.1.1, r1.1)).bind fun r2 =>
  some (r2.1, ())
noncomputable def E282 (c249 : F249) (c315 : F315) := mkE [g249 c249, g315 c315]
theorem s282 (c249 : F249) (c315 : F315)  (y) : tevF (E282 c249 c315 ) Tryz.f282 i282 o282 y = m282 c249 c315  y := by kernel_rfl
noncomputable def r282 : F282 := m282 r249 r315 
theorem k282 : CK Tryz.prog (g282 r282) := fn0 (s282 r249 r315) (fnsL_ok ⟨k249, k315, trivial⟩) rfl mixed (by kernel_rfl) (by kernel_rfl) (by kernel_rfl)
@[reducible] def i211 : List Ty := [.a q0]
@[reducible] def o211 : List Ty := [.a q8]
abbrev R211 := Option (PTup o211 × BTup i211)
abbrev F211 := PTup i211 → R211
abbrev g211 (c : F211) : Nat × Tev.Fn := (211, ⟨i211, o211, c, .nor⟩)
noncomputable def m211 (c210 : F210) (c282 : F282)  (y : PTup i211) : Option (PTup o211 × BTup i211) :=
  (c210 ()).bind fun r0 =>
  (c282 (y.1, (r0.1.1, ((65532 : Int), ())))).bind fun r1 =>
  some ((((0 : Int), ((0 : Int), ((255 : Int), (r1.1.1, (false, (false, (false, (true, ())))))))), ()), ())
noncomputable def E211 (c210 : F210) (c282 : F282) := mkE [g210 c210, g282 c282]
theorem s211 (c210 : F210) (c282 : F282)  (y) : tevF (E211 c210 c282 ) Tryz.f211 i211 o211 y = m211 c210 c282  y := by kernel_rfl
noncomputable def r211 : F211 := m211 r210 r282 
theorem k211 : CK Tryz.prog (g211 r211) := fn0 (s211 r210 r282) (fnsL_ok ⟨k210, k282, trivial⟩) rfl mixed (by kernel_rfl) (by kernel_rfl) (by kernel_rfl)
@[reducible] def i212 : List Ty := []
@[reducible] def o212 : List Ty := [.a q10]
abbrev R212 := Option (PTup o212 × BTup i212)
abbrev F212 := PTup i212 → R212
abbrev g212 (c : F212) : Nat × Tev.Fn := (212, ⟨i212, o212, c, .nor⟩)
noncomputable def m212   (y : PTup i212) : Option (PTup o212 × BTup i212) :=
  some ((((0 : Int), ((0 : Int), ((0 : Int), ((0 : Int), ((0 : Int), (false, ((List.replicate (Int.toNat (16 : Int)) (0 : Int)), ([], ())))))))), ()), ())
noncomputable def E212  := mkE []
theorem s212   (y) : tevF (E212  ) Tryz.f212 i212 o212 y = m212   y := by kernel_rfl
noncomputable def r212 : F212 := m212  
theorem k212 : CK Tryz.prog (g212 r212) := fn0 (s212 ) (fnsL_ok trivial) rfl mixed (by kernel_rfl) (by kernel_rfl) (by kernel_rfl)
@[reducible] def i110 : List Ty := [.a q0, .v (.sl false .i)]
@[reducible] def o110 : List Ty := [.a q14, .v (.bool)]
abbrev R110 := Option (PTup o110 × BTup i110)
abbrev F110 := PTup i110 → R110
abbrev g110 (c : F110) : Nat × Tev.Fn := (110, ⟨i110, o110, c, .nor⟩)
noncomputable def m110 (c211 : F211) (c94 : F94) (c210 : F210) (c212 : F212) (c146 : F146) (c147 : F147)  (y : PTup i110) : Option (PTup o110 × BTup i110) :=
  (c146 (y.1, ())).bind fun r0 =>
  (c147 y.2).bind fun r1 =>
  (c210 ()).bind fun r2 =>
  (c211 (y.1, ())).bind fun r3 =>
  (c212 ()).bind fun r4 =>
  (c94 ((r0.1.1.1, (r1.1.1, (r2.1.1.1, (r2.1.1.2.1, (r3.1.1.1, (r3.1.1.2.1, (r3.1.1.2.2.1, (r3.1.1.2.2.2.1, (r3.1.1.2.2.2.2.1, (r3.1.1.2.2.2.2.2.1, (r3.1.1.2.2.2.2.2.2.1, (r3.1.1.2.2.2.2.2.2.2.1, (r4.1.1.1, (r4.1.1.2.1, (r4.1.1.2.2.1, (r4.1.1.2.2.2.1, (r4.1.1.2.2.2.2.1, (r4.1.1.2.2.2.2.2.1, (r4.1.1.2.2.2.2.2.2.1, (r4.1.1.2.2.2.2.2.2.2.1, ((0 : Int), ((0 : Int), ((0 : Int), ((0 : Int), ((0 : Int), (false, (false, (false, ((0 : Int), (false, ((0 : Int), ([], ([], ([], ())))))))))))))))))))))))))))))))))), ())).bind fun r5 =>
  bif (!r5.1.1) then (some ((([], ([], ([], ((0 : Int), ((0 : Int), ((0 : Int), ((0 : Int), ((0 : Int), (false, (false, (false, (false, ((0 : Int), ((0 : Int), ((0 : Int), ((0 : Int), ((0 : Int), (false, ([], ([], ((0 : Int), ((0 : Int), ((0 : Int), ((0 : Int), ((0 : Int), (false, (false, (false, ((0 : Int), (false, ((0 : Int), ([], ([], ([], ())))))))))))))))))))))))))))))))))), (false, ())), ()))
  else some (((r0.1.1.1, (r1.1.1, (r2.1.1.1, (r2.1.1.2.1, (r3.1.1.1, (r3.1.1.2.1, (r3.1.1.2.2.1, (r3.1.1.2.2.2.1, (r3.1.1.2.2.2.2.1, (r3.1.1.2.2.2.2.2.1, (r3.1.1.2.2.2.2.2.2.1, (r3.1.1.2.2.2.2.2.2.2.1, (r4.1.1.1, (r4.1.1.2.1, (r4.1.1.2.2.1, (r4.1.1.2.2.2.1, (r4.1.1.2.2.2.2.1, (r4.1.1.2.2.2.2.2.1, (r4.1.1.2.2.2.2.2.2.1, (r4.1.1.2.2.2.2.2.2.2.1, ((0 : Int), ((0 : Int), ((0 : Int), ((0 : Int), ((0 : Int), (false, (false, (false, ((0 : Int), (false, ((0 : Int), ([], ([], ([], ())))))))))))))))))))))))))))))))))), (true, ())), ())
noncomputable def E110 (c211 : F211) (c94 : F94) (c210 : F210) (c212 : F212) (c146 : F146) (c147 : F147) := mkE [g211 c211, g94 c94, g210 c210, g212 c212, g146 c146, g147 c147]
theorem s110 (c211 : F211) (c94 : F94) (c210 : F210) (c212 : F212) (c146 : F146) (c147 : F147)  (y) : tevF (E110 c211 c94 c210 c212 c146 c147 ) Tryz.f110 i110 o110 y = m110 c211 c94 c210 c212 c146 c147  y := by kernel_rfl
noncomputable def r110 : F110 := m110 r211 r94 r210 r212 r146 r147 
theorem k110 : CK Tryz.prog (g110 r110) := fn0 (s110 r211 r94 r210 r212 r146 r147) (fnsL_ok ⟨k211, k94, k210, k212, k146, k147, trivial⟩) rfl mixed (by kernel_rfl) (by kernel_rfl) (by kernel_rfl)
@[reducible] def i32 : List Ty := [.a q6]
@[reducible] def o32 : List Ty := [.a q14]
abbrev R32 := Option (PTup o32 × BTup i32)
abbrev F32 := PTup i32 → R32
abbrev g32 (c : F32) : Nat × Tev.Fn := (32, ⟨i32, o32, c, .nor⟩)
noncomputable def m32 (c110 : F110) (c25 : F25) (c109 : F109)  (y : PTup i32) : Option (PTup o32 × BTup i32) :=
  (c109 (y.1, ())).bind fun r0 =>
  bif (!r0.1.1) then (some ((([], ([], ([], ((0 : Int), ((0 : Int), ((0 : Int), ((0 : Int), ((0 : Int), (false, (false, (false, (false, ((0 : Int), ((0 : Int), ((0 : Int), ((0 : Int), ((0 : Int), (false, ([], ([], ((0 : Int), ((0 : Int), ((0 : Int), ((0 : Int), ((0 : Int), (false, (false, (false, ((0 : Int), (false, ((0 : Int), ([], ([], ([], ())))))))))))))))))))))))))))))))))), ()), ()))
  else (c110 ((y.1.1, ()), (y.1.2.1, ()))).bind fun r1 =>
  (c25 (r1.1.1, (y.1.2.2.2.2.2.2.2.2.2.2.2.2.2.2.2.2.2.2.2.1, ()))).bind fun r2 =>
  some ((r2.1.1, ()), ())
noncomputable def E32 (c110 : F110) (c25 : F25) (c109 : F109) := mkE [g110 c110, g25 c25, g109 c109]
theorem s32 (c110 : F110) (c25 : F25) (c109 : F109)  (y) : tevF (E32 c110 c25 c109 ) Tryz.f32 i32 o32 y = m32 c110 c25 c109  y := by kernel_rfl
noncomputable def r32 : F32 := m32 r110 r25 r109 
theorem k32 : CK Tryz.prog (g32 r32) := fn0 (s32 r110 r25 r109) (fnsL_ok ⟨k110, k25, k109, trivial⟩) rfl mixed (by kernel_rfl) (by kernel_rfl) (by kernel_rfl)
end Go.Proofs.YtanoofbkhddokaaGreat.Plain
