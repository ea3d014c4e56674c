/- Plain functions that the program's functions answer as; their contracts. Printed by a program of the proofs' writer. No condition. -/
import Derived.Test.YtanoofbkhddokaaGreatUf
import Derived.KernelRfl
import Derived.Test.YtanoofbkhddokaaGreatFn1
set_option linter.unusedVariables false
set_option linter.unusedSimpArgs false
set_option maxRecDepth 100000
namespace Go.Proofs.YtanoofbkhddokaaGreat.Plain
open Go Go.Tev
@[reducible] def i213 : List Ty := [.a q2, .v (.int .i64), .v (.int .i64)]
@[reducible] def o213 : List Ty := [.a q10]
abbrev R213 := Option (PTup o213 × BTup i213)
abbrev F213 := PTup i213 → R213
abbrev g213 (c : F213) : Nat × Tev.Fn := (213, ⟨i213, o213, c, .nor⟩)
noncomputable def m213 (c262 : F262) (c168 : F168) (c171 : F171)  (y : PTup i213) : Option (PTup o213 × BTup i213) :=
  (c171 (y.1, ())).bind fun r0 =>
  (c168 (y.1, ())).bind fun r1 =>
  bif (!r1.1.1) then (some ((r0.1.1, ()), ()))
  else (c262 y.2.2).bind fun r2 =>
  bif (eqI y.2.1 (0 : Int)) then (some (((r0.1.1.1, (r2.1.1, r0.1.1.2.2)), ()), ()))
  else bif (eqI y.2.1 (1 : Int)) then (some (((r0.1.1.1, (r0.1.1.2.1, (r2.1.1, r0.1.1.2.2.2))), ()), ()))
  else bif (eqI y.2.1 (3 : Int)) then (some (((r0.1.1.1, (r0.1.1.2.1, (r0.1.1.2.2.1, ((Int.tmod r2.1.1 (16 : Int)), r0.1.1.2.2.2.2)))), ()), ()))
  else bif (eqI y.2.1 (4 : Int)) then (bif (leI (0 : Int) y.1.2.2.2.1) then (bif (ltI y.1.2.2.2.1 (lenI r0.1.1.2.2.2.2.2.2.1)) then (some (((r0.1.1.1, (r0.1.1.2.1, (r0.1.1.2.2.1, ((Int.tmod (wI (y.1.2.2.2.1 + (1 : Int))) (16 : Int)), (r0.1.1.2.2.2.2.1, (r0.1.1.2.2.2.2.2.1, ((List.set r0.1.1.2.2.2.2.2.2.1 (Int.toNat y.1.2.2.2.1) (Int.tmod r2.1.1 (64 : Int))), r0.1.1.2.2.2.2.2.2.2))))))), ()), ()))
    else none)
   else none)
  else bif (eqI y.2.1 (5 : Int)) then (some (((r0.1.1.1, (r0.1.1.2.1, (r0.1.1.2.2.1, (r0.1.1.2.2.2.1, ((Int.tmod r2.1.1 (64 : Int)), r0.1.1.2.2.2.2.2))))), ()), ()))
  else some ((r0.1.1, ()), ())
noncomputable def E213 (c262 : F262) (c168 : F168) (c171 : F171) := mkE [g262 c262, g168 c168, g171 c171]
theorem s213 (c262 : F262) (c168 : F168) (c171 : F171)  (y) : tevF (E213 c262 c168 c171 ) Tryz.f213 i213 o213 y = m213 c262 c168 c171  y := by kernel_rfl
noncomputable def r213 : F213 := m213 r262 r168 r171 
theorem k213 : CK Tryz.prog (g213 r213) := fn0 (s213 r262 r168 r171) (fnsL_ok ⟨k262, k168, k171, trivial⟩) rfl mixed (by kernel_rfl) (by kernel_rfl) (by kernel_rfl)
@[reducible] def i283 : List Ty := [.a q2, .v (.int .i64)]
@[reducible] def o283 : List Ty := [.v (.int .i64)]
abbrev R283 := Option (PTup o283 × BTup i283)
abbrev F283 := PTup i283 → R283
abbrev g283 (c : F283) : Nat × Tev.Fn := (283, ⟨i283, o283, c, .nor⟩)
noncomputable def m283   (y : PTup i283) : Option (PTup o283 × BTup i283) :=
  bif (leI (0 : Int) (Int.tmod (wI ((wI ((Int.tmod y.2.1 (8 : Int)) + y.1.2.2.1)) + (wI (Int.tdiv y.2.1 (8 : Int))))) (16 : Int))) then (bif (ltI (Int.tmod (wI ((wI ((Int.tmod y.2.1 (8 : Int)) + y.1.2.2.1)) + (wI (Int.tdiv y.2.1 (8 : Int))))) (16 : Int)) (lenI y.1.2.2.2.2.2.2.1)) then (some (((bXor Go.IntKind.i64 (rdE .i y.1.2.2.2.2.2.2.1 (Int.tmod (wI ((wI ((Int.tmod y.2.1 (8 : Int)) + y.1.2.2.1)) + (wI (Int.tdiv y.2.1 (8 : Int))))) (16 : Int))) y.1.2.2.2.2.1), ()), ()))
   else none)
  else none
noncomputable def E283  := mkE []
theorem s283   (y) : tevF (E283  ) Tryz.f283 i283 o283 y = m283   y := by kernel_rfl
noncomputable def r283 : F283 := m283  
theorem k283 : CK Tryz.prog (g283 r283) := fn0 (s283 ) (fnsL_ok trivial) rfl mixed (by kernel_rfl) (by kernel_rfl) (by kernel_rfl)
@[reducible] def i214 : List Ty := [.a q2]
@[reducible] def o214 : List Ty := [.a q10, .v (.sl true .i), .v (.bool)]
abbrev R214 := Option (PTup o214 × BTup i214)
abbrev F214 := PTup i214 → R214
abbrev g214 (c : F214) : Nat × Tev.Fn := (214, ⟨i214, o214, c, .nor⟩)
noncomputable def m214 (c171 : F171) (c283 : F283)  (y : PTup i214) : Option (PTup o214 × BTup i214) :=
  (c171 (y.1, ())).bind fun r0 =>
  bif (eqI y.1.1 (20000 : Int)) then (some ((r0.1.1, ([], (false, ()))), ()))
  else bif (ltI (Int.tmod y.1.1 (64 : Int)) (48 : Int)) then ((c283 (y.1, ((Int.tmod y.1.1 (64 : Int)), ()))).bind fun r1 =>
   bif (leN ((List.length r0.1.1.2.2.2.2.2.2.2.1) + (List.length (r1.1.1 :: []))) (E.most .i)) then (some ((((wI (y.1.1 + (1 : Int))), (r0.1.1.2.1, (r0.1.1.2.2.1, (r0.1.1.2.2.2.1, (r0.1.1.2.2.2.2.1, (r0.1.1.2.2.2.2.2.1, (r0.1.1.2.2.2.2.2.2.1, ((r0.1.1.2.2.2.2.2.2.2.1 ++ (r1.1.1 :: [])), ())))))))), ([], (false, ()))), ()))
   else none)
  else bif (eqI (Int.tmod y.1.1 (64 : Int)) (48 : Int)) then (bif (leN (0 + (List.length y.1.2.2.2.2.2.2.2.1)) (E.most .i)) then (some ((((wI (y.1.1 + (1 : Int))), (r0.1.1.2.1, (r0.1.1.2.2.1, (r0.1.1.2.2.2.1, (r0.1.1.2.2.2.2.1, (true, (r0.1.1.2.2.2.2.2.2.1, ([], ())))))))), (([] ++ y.1.2.2.2.2.2.2.2.1), ((ltI (127 : Int) y.1.2.1), ()))), ()))
   else none)
  else bif (eqI (Int.tmod y.1.1 (64 : Int)) (63 : Int)) then (some ((((wI (y.1.1 + (1 : Int))), (r0.1.1.2.1, (r0.1.1.2.2.1, (r0.1.1.2.2.2.1, (r0.1.1.2.2.2.2.1, (false, r0.1.1.2.2.2.2.2.2)))))), ([], (false, ()))), ()))
  else some ((((wI (y.1.1 + (1 : Int))), r0.1.1.2), ([], (false, ()))), ())
noncomputable def E214 (c171 : F171) (c283 : F283) := mkE [g171 c171, g283 c283]
theorem s214 (c171 : F171) (c283 : F283)  (y) : tevF (E214 c171 c283 ) Tryz.f214 i214 o214 y = m214 c171 c283  y := by kernel_rfl
noncomputable def r214 : F214 := m214 r171 r283 
theorem k214 : CK Tryz.prog (g214 r214) := fn0 (s214 r171 r283) (fnsL_ok ⟨k171, k283, trivial⟩) rfl mixed (by kernel_rfl) (by kernel_rfl) (by kernel_rfl)
@[reducible] def i111 : List Ty := [.a q12, .v (.int .i64)]
@[reducible] def o111 : List Ty := [.a q12, .v (.bool)]
abbrev R111 := Option (PTup o111 × BTup i111)
abbrev F111 := PTup i111 → R111
abbrev g111 (c : F111) : Nat × Tev.Fn := (111, ⟨i111, o111, c, .nor⟩)
noncomputable def m111 (c213 : F213) (c214 : F214)  (y : PTup i111) : Option (PTup o111 × BTup i111) :=
  let a0 := y.1; let a1 := a0.2; let a2 := a1.2; let a3 := a2.2; let a4 := a3.2; let a5 := a4.2; let a6 := a5.2; let a7 := a6.2; let a8 := a7.2; let a9 := a8.2; let X0 : R111 := bif (leI y.2.1 a0.1) then (some ((a0, (false, ())), ())) else bif (eqI a0.1 (20000 : Int)) then (some ((a0, (false, ())), ())) else (c214 ((a0.1, (a1.1, (a2.1, (a3.1, (a4.1, (a5.1, (a6.1, (a7.1, ())))))))), ())).bind fun r0 => bif (eqI (Int.tmod a0.1 (64 : Int)) (48 : Int)) then (bif (leN ((List.length a9.2.1) + (List.length (r0.1.2.1 :: []))) (E.most .n)) then (some (((r0.1.1.1, (r0.1.1.2.1, (r0.1.1.2.2.1, (r0.1.1.2.2.2.1, (r0.1.1.2.2.2.2.1, (r0.1.1.2.2.2.2.2.1, (r0.1.1.2.2.2.2.2.2.1, (r0.1.1.2.2.2.2.2.2.2.1, (a8.1, (a9.1, ((a9.2.1 ++ (r0.1.2.1 :: [])), ()))))))))))), (true, ())), ())) else none) else some (((r0.1.1.1, (r0.1.1.2.1, (r0.1.1.2.2.1, (r0.1.1.2.2.2.1, (r0.1.1.2.2.2.2.1, (r0.1.1.2.2.2.2.2.1, (r0.1.1.2.2.2.2.2.2.1, (r0.1.1.2.2.2.2.2.2.2.1, a8)))))))), (true, ())), ()); bif (ltI (0 : Int) (lenI a9.1)) then (bif (ltI (0 : Int) (lenI a9.1)) then (bif (eqI (rdE .t a9.1 (0 : Int)).1 a0.1) then (bif (ltI (0 : Int) (lenI a9.1)) then (bif (leI (1 : Int) (lenI a9.1)) then (bif (leN (0 + (List.length (List.drop (Int.toNat (1 : Int)) a9.1))) (E.most .t)) then ((c213 ((a0.1, (a1.1, (a2.1, (a3.1, (a4.1, (a5.1, (a6.1, (a7.1, ())))))))), ((rdE .t a9.1 (0 : Int)).2.1, ((rdE .t a9.1 (0 : Int)).2.2, ())))).bind fun r0 => some (((r0.1.1.1, (r0.1.1.2.1, (r0.1.1.2.2.1, (r0.1.1.2.2.2.1, (r0.1.1.2.2.2.2.1, (r0.1.1.2.2.2.2.2.1, (r0.1.1.2.2.2.2.2.2.1, (r0.1.1.2.2.2.2.2.2.2.1, (a8.1, (([] ++ (List.drop (Int.toNat (1 : Int)) a9.1)), a9.2)))))))))), (true, ())), ())) else none) else none) else none) else X0) else none) else X0
noncomputable def E111 (c213 : F213) (c214 : F214) := mkE [g213 c213, g214 c214]
theorem s111 (c213 : F213) (c214 : F214)  (y) : tevF (E111 c213 c214 ) Tryz.f111 i111 o111 y = m111 c213 c214  y := by kernel_rfl
noncomputable def r111 : F111 := m111 r213 r214 
theorem k111 : CK Tryz.prog (g111 r111) := fn0 (s111 r213 r214) (fnsL_ok ⟨k213, k214, trivial⟩) rfl mixed (by kernel_rfl) (by kernel_rfl) (by kernel_rfl)
@[reducible] def i215 : List Ty := [.a q13, .v (.int .i64), .v (.int .i64)]
@[reducible] def o215 : List Ty := [.a q13]
abbrev R215 := Option (PTup o215 × BTup i215)
abbrev F215 := PTup i215 → R215
abbrev g215 (c : F215) : Nat × Tev.Fn := (215, ⟨i215, o215, c, .nor⟩)
noncomputable def m215 (c169 : F169) (c262 : F262)  (y : PTup i215) : Option (PTup o215 × BTup i215) :=
  (c169 (y.1, ())).bind fun r0 =>
  bif (!r0.1.1) then (some ((y.1, ()), ()))
  else (c262 y.2.2).bind fun r1 =>
  bif (eqI y.2.1 (0 : Int)) then (some (((y.1.1, (r1.1.1, y.1.2.2)), ()), ()))
  else bif (eqI y.2.1 (1 : Int)) then (some (((y.1.1, (y.1.2.1, (y.1.2.2.1, (y.1.2.2.2.1, ((Int.tmod r1.1.1 (32 : Int)), y.1.2.2.2.2.2))))), ()), ()))
  else bif (eqI y.2.1 (2 : Int)) then (bif y.1.2.2.2.2.2.2.1 then (some (((y.1.1, (y.1.2.1, (y.1.2.2.1, (y.1.2.2.2.1, (y.1.2.2.2.2.1, ((eqI (Int.tmod r1.1.1 (2 : Int)) (1 : Int)), ((eqI (Int.tmod r1.1.1 (2 : Int)) (1 : Int)), ()))))))), ()), ()))
   else some (((y.1.1, (y.1.2.1, (y.1.2.2.1, (y.1.2.2.2.1, (y.1.2.2.2.2.1, ((eqI (Int.tmod r1.1.1 (2 : Int)) (1 : Int)), (false, ()))))))), ()), ()))
  else bif (eqI y.2.1 (3 : Int)) then (some (((y.1.1, (y.1.2.1, (y.1.2.2.1, (y.1.2.2.2.1, (y.1.2.2.2.2.1, (y.1.2.2.2.2.2.1, (false, ()))))))), ()), ()))
  else some ((y.1, ()), ())
noncomputable def E215 (c169 : F169) (c262 : F262) := mkE [g169 c169, g262 c262]
theorem s215 (c169 : F169) (c262 : F262)  (y) : tevF (E215 c169 c262 ) Tryz.f215 i215 o215 y = m215 c169 c262  y := by kernel_rfl
noncomputable def r215 : F215 := m215 r169 r262 
theorem k215 : CK Tryz.prog (g215 r215) := fn0 (s215 r169 r262) (fnsL_ok ⟨k169, k262, trivial⟩) rfl mixed (by kernel_rfl) (by kernel_rfl) (by kernel_rfl)
@[reducible] def i216 : List Ty := [.a q13]
@[reducible] def o216 : List Ty := [.a q13, .v (.int .i64), .v (.bool)]
abbrev R216 := Option (PTup o216 × BTup i216)
abbrev F216 := PTup i216 → R216
abbrev g216 (c : F216) : Nat × Tev.Fn := (216, ⟨i216, o216, c, .nor⟩)
noncomputable def m216   (y : PTup i216) : Option (PTup o216 × BTup i216) :=
  let a0 := y.1; let a1 := a0.1; let a2 := a0.2; let a3 := a2.1; let a4 := a2.2; let a5 := a4.1; let a6 := a4.2; let a7 := a6.1; let a8 := a6.2; let a9 := a8.1; let a10 := a8.2; let a11 := a10.1; let X0 : R216 := bif (eqI (Int.tmod a1 (16 : Int)) (15 : Int)) then (bif (ltI (0 : Int) a9) then (some ((((wI (a1 + (1 : Int))), (a3, (a3, ((wI ((1 : Int) - a7)), a8)))), ((wI ((8 : Int) * (wI ((1 : Int) - a7)))), ((eqI (Int.tmod a1 (16 : Int)) (15 : Int)), ()))), ())) else some ((((wI (a1 + (1 : Int))), (a3, (a3, ((wI ((1 : Int) - a7)), a8)))), ((0 : Int), ((eqI (Int.tmod a1 (16 : Int)) (15 : Int)), ()))), ())) else some ((((wI (a1 + (1 : Int))), (a3, (a3, ((wI ((1 : Int) - a7)), a8)))), ((0 : Int), ((eqI (Int.tmod a1 (16 : Int)) (15 : Int)), ()))), ()); let X1 : R216 := bif (eqI (Int.tmod a1 (16 : Int)) (15 : Int)) then (bif (ltI (0 : Int) a9) then (some ((((wI (a1 + (1 : Int))), (a3, ((wI (a5 - (1 : Int))), a6))), ((wI ((8 : Int) * a7)), ((eqI (Int.tmod a1 (16 : Int)) (15 : Int)), ()))), ())) else some ((((wI (a1 + (1 : Int))), (a3, ((wI (a5 - (1 : Int))), a6))), ((0 : Int), ((eqI (Int.tmod a1 (16 : Int)) (15 : Int)), ()))), ())) else some ((((wI (a1 + (1 : Int))), (a3, ((wI (a5 - (1 : Int))), a6))), ((0 : Int), ((eqI (Int.tmod a1 (16 : Int)) (15 : Int)), ()))), ()); let X2 : R216 := bif (eqI (Int.tmod a1 (16 : Int)) (15 : Int)) then (bif (ltI (0 : Int) a9) then (some ((((wI (a1 + (1 : Int))), (a3, (a3, a6))), ((wI ((8 : Int) * a7)), ((eqI (Int.tmod a1 (16 : Int)) (15 : Int)), ()))), ())) else some ((((wI (a1 + (1 : Int))), (a3, (a3, a6))), ((0 : Int), ((eqI (Int.tmod a1 (16 : Int)) (15 : Int)), ()))), ())) else some ((((wI (a1 + (1 : Int))), (a3, (a3, a6))), ((0 : Int), ((eqI (Int.tmod a1 (16 : Int)) (15 : Int)), ()))), ()); let X3 : R216 := some ((((wI (a1 + (1 : Int))), (a3, ((wI (a5 - (1 : Int))), (a7, ((wI (a9 - (1 : Int))), (a11, (a11, ()))))))), ((0 : Int), ((eqI (Int.tmod a1 (16 : Int)) (15 : Int)), ()))), ()); let X4 : R216 := some ((((wI (a1 + (1 : Int))), (a3, (a3, ((wI ((1 : Int) - a7)), ((wI (a9 - (1 : Int))), (a11, (a11, ()))))))), ((0 : Int), ((eqI (Int.tmod a1 (16 : Int)) (15 : Int)), ()))), ()); let X5 : R216 := some ((((wI (a1 + (1 : Int))), (a3, ((wI (a5 - (1 : Int))), (a7, ((wI (a9 - (1 : Int))), (a11, (false, ()))))))), ((0 : Int), ((eqI (Int.tmod a1 (16 : Int)) (15 : Int)), ()))), ()); let X6 : R216 := some ((((wI (a1 + (1 : Int))), (a3, ((wI (a5 - (1 : Int))), (a7, ((wI (a9 - (1 : Int))), (a11, (true, ()))))))), ((0 : Int), ((eqI (Int.tmod a1 (16 : Int)) (15 : Int)), ()))), ()); let X7 : R216 := some ((((wI (a1 + (1 : Int))), (a3, (a3, ((wI ((1 : Int) - a7)), ((wI (a9 - (1 : Int))), (a11, (false, ()))))))), ((0 : Int), ((eqI (Int.tmod a1 (16 : Int)) (15 : Int)), ()))), ()); let X8 : R216 := some ((((wI (a1 + (1 : Int))), (a3, (a3, ((wI ((1 : Int) - a7)), ((wI (a9 - (1 : Int))), (a11, (true, ()))))))), ((0 : Int), ((eqI (Int.tmod a1 (16 : Int)) (15 : Int)), ()))), ()); let X9 : R216 := some ((((wI (a1 + (1 : Int))), (a3, (a3, (a7, ((wI (a9 - (1 : Int))), (a11, (a11, ()))))))), ((0 : Int), ((eqI (Int.tmod a1 (16 : Int)) (15 : Int)), ()))), ()); let X10 : R216 := some ((((wI (a1 + (1 : Int))), (a3, (a3, (a7, ((wI (a9 - (1 : Int))), (a11, (false, ()))))))), ((0 : Int), ((eqI (Int.tmod a1 (16 : Int)) (15 : Int)), ()))), ()); let X11 : R216 := some ((((wI (a1 + (1 : Int))), (a3, (a3, (a7, ((wI (a9 - (1 : Int))), (a11, (true, ()))))))), ((0 : Int), ((eqI (Int.tmod a1 (16 : Int)) (15 : Int)), ()))), ()); bif (eqI a1 (20000 : Int)) then (some ((a0, ((0 : Int), (false, ()))), ())) else bif (eqI a5 (0 : Int)) then (bif (ltI (0 : Int) a9) then (bif (eqI (Int.tmod a1 (32 : Int)) (0 : Int)) then (bif (ltI (0 : Int) a9) then (bif a10.2.1 then (bif (eqI (Int.tmod a1 (16 : Int)) (15 : Int)) then (bif (ltI (0 : Int) (wI (a9 - (1 : Int)))) then (some ((((wI (a1 + (1 : Int))), (a3, (a3, ((wI ((1 : Int) - a7)), ((wI (a9 - (1 : Int))), (a11, (true, ()))))))), ((wI ((8 : Int) * (wI ((1 : Int) - a7)))), ((eqI (Int.tmod a1 (16 : Int)) (15 : Int)), ()))), ())) else X8) else X8) else bif (eqI (wI (a9 - (1 : Int))) (0 : Int)) then (bif (eqI (Int.tmod a1 (16 : Int)) (15 : Int)) then (bif (ltI (0 : Int) (wI (a9 - (1 : Int)))) then (some ((((wI (a1 + (1 : Int))), (a3, (a3, ((wI ((1 : Int) - a7)), ((wI (a9 - (1 : Int))), (a11, (a11, ()))))))), ((wI ((8 : Int) * (wI ((1 : Int) - a7)))), ((eqI (Int.tmod a1 (16 : Int)) (15 : Int)), ()))), ())) else X4) else X4) else bif (eqI (Int.tmod a1 (16 : Int)) (15 : Int)) then (bif (ltI (0 : Int) (wI (a9 - (1 : Int)))) then (some ((((wI (a1 + (1 : Int))), (a3, (a3, ((wI ((1 : Int) - a7)), ((wI (a9 - (1 : Int))), (a11, (false, ()))))))), ((wI ((8 : Int) * (wI ((1 : Int) - a7)))), ((eqI (Int.tmod a1 (16 : Int)) (15 : Int)), ()))), ())) else X7) else X7) else X0) else X0) else bif (eqI (Int.tmod a1 (32 : Int)) (0 : Int)) then (bif (ltI (0 : Int) a9) then (bif a10.2.1 then (bif (eqI (Int.tmod a1 (16 : Int)) (15 : Int)) then (bif (ltI (0 : Int) (wI (a9 - (1 : Int)))) then (some ((((wI (a1 + (1 : Int))), (a3, (a3, (a7, ((wI (a9 - (1 : Int))), (a11, (true, ()))))))), ((wI ((8 : Int) * a7)), ((eqI (Int.tmod a1 (16 : Int)) (15 : Int)), ()))), ())) else X11) else X11) else bif (eqI (wI (a9 - (1 : Int))) (0 : Int)) then (bif (eqI (Int.tmod a1 (16 : Int)) (15 : Int)) then (bif (ltI (0 : Int) (wI (a9 - (1 : Int)))) then (some ((((wI (a1 + (1 : Int))), (a3, (a3, (a7, ((wI (a9 - (1 : Int))), (a11, (a11, ()))))))), ((wI ((8 : Int) * a7)), ((eqI (Int.tmod a1 (16 : Int)) (15 : Int)), ()))), ())) else X9) else X9) else bif (eqI (Int.tmod a1 (16 : Int)) (15 : Int)) then (bif (ltI (0 : Int) (wI (a9 - (1 : Int)))) then (some ((((wI (a1 + (1 : Int))), (a3, (a3, (a7, ((wI (a9 - (1 : Int))), (a11, (false, ()))))))), ((wI ((8 : Int) * a7)), ((eqI (Int.tmod a1 (16 : Int)) (15 : Int)), ()))), ())) else X10) else X10) else X2) else X2) else bif (eqI (Int.tmod a1 (32 : Int)) (0 : Int)) then (bif (ltI (0 : Int) a9) then (bif a10.2.1 then (bif (eqI (Int.tmod a1 (16 : Int)) (15 : Int)) then (bif (ltI (0 : Int) (wI (a9 - (1 : Int)))) then (some ((((wI (a1 + (1 : Int))), (a3, ((wI (a5 - (1 : Int))), (a7, ((wI (a9 - (1 : Int))), (a11, (true, ()))))))), ((wI ((8 : Int) * a7)), ((eqI (Int.tmod a1 (16 : Int)) (15 : Int)), ()))), ())) else X6) else X6) else bif (eqI (wI (a9 - (1 : Int))) (0 : Int)) then (bif (eqI (Int.tmod a1 (16 : Int)) (15 : Int)) then (bif (ltI (0 : Int) (wI (a9 - (1 : Int)))) then (some ((((wI (a1 + (1 : Int))), (a3, ((wI (a5 - (1 : Int))), (a7, ((wI (a9 - (1 : Int))), (a11, (a11, ()))))))), ((wI ((8 : Int) * a7)), ((eqI (Int.tmod a1 (16 : Int)) (15 : Int)), ()))), ())) else X3) else X3) else bif (eqI (Int.tmod a1 (16 : Int)) (15 : Int)) then (bif (ltI (0 : Int) (wI (a9 - (1 : Int)))) then (some ((((wI (a1 + (1 : Int))), (a3, ((wI (a5 - (1 : Int))), (a7, ((wI (a9 - (1 : Int))), (a11, (false, ()))))))), ((wI ((8 : Int) * a7)), ((eqI (Int.tmod a1 (16 : Int)) (15 : Int)), ()))), ())) else X5) else X5) else X1) else X1
noncomputable def E216  := mkE []
theorem s216   (y) : tevF (E216  ) Tryz.f216 i216 o216 y = m216   y := by kernel_rfl
noncomputable def r216 : F216 := m216  
theorem k216 : CK Tryz.prog (g216 r216) := fn0 (s216 ) (fnsL_ok trivial) rfl mixed (by kernel_rfl) (by kernel_rfl) (by kernel_rfl)
@[reducible] def i112 : List Ty := [.a q14, .v (.int .i64)]
@[reducible] def o112 : List Ty := [.a q14, .v (.bool)]
abbrev R112 := Option (PTup o112 × BTup i112)
abbrev F112 := PTup i112 → R112
abbrev g112 (c : F112) : Nat × Tev.Fn := (112, ⟨i112, o112, c, .nor⟩)
noncomputable def m112 (c215 : F215) (c216 : F216)  (y : PTup i112) : Option (PTup o112 × BTup i112) :=
  let a0 := y.1; let a1 := a0.2; let a2 := a1.2; let a3 := a2.2; let a4 := a3.2; let a5 := a4.2; let a6 := a5.2; let a7 := a6.2; let a8 := a7.2; let a9 := a8.1; let X0 : R112 := bif (leI y.2.1 a0.1) then (some ((a0, (false, ())), ())) else bif (eqI a0.1 (20000 : Int)) then (some ((a0, (false, ())), ())) else (c216 ((a0.1, (a1.1, (a2.1, (a3.1, (a4.1, (a5.1, (a6.1, ()))))))), ())).bind fun r0 => bif r0.1.2.2.1 then (bif (leN ((List.length a8.2.1) + (List.length (r0.1.2.1 :: []))) (E.most .i)) then (some (((r0.1.1.1, (r0.1.1.2.1, (r0.1.1.2.2.1, (r0.1.1.2.2.2.1, (r0.1.1.2.2.2.2.1, (r0.1.1.2.2.2.2.2.1, (r0.1.1.2.2.2.2.2.2.1, (a7.1, (a9, ((a8.2.1 ++ (r0.1.2.1 :: [])), ())))))))))), (true, ())), ())) else none) else some (((r0.1.1.1, (r0.1.1.2.1, (r0.1.1.2.2.1, (r0.1.1.2.2.2.1, (r0.1.1.2.2.2.2.1, (r0.1.1.2.2.2.2.2.1, (r0.1.1.2.2.2.2.2.2.1, a7))))))), (true, ())), ()); bif (ltI (0 : Int) (lenI a9)) then (bif (ltI (0 : Int) (lenI a9)) then (bif (eqI (rdE .t a9 (0 : Int)).1 a0.1) then (bif (ltI (0 : Int) (lenI a9)) then (bif (leI (1 : Int) (lenI a9)) then (bif (leN (0 + (List.length (List.drop (Int.toNat (1 : Int)) a9))) (E.most .t)) then ((c215 ((a0.1, (a1.1, (a2.1, (a3.1, (a4.1, (a5.1, (a6.1, ()))))))), ((rdE .t a9 (0 : Int)).2.1, ((rdE .t a9 (0 : Int)).2.2, ())))).bind fun r0 => some (((r0.1.1.1, (r0.1.1.2.1, (r0.1.1.2.2.1, (r0.1.1.2.2.2.1, (r0.1.1.2.2.2.2.1, (r0.1.1.2.2.2.2.2.1, (r0.1.1.2.2.2.2.2.2.1, (a7.1, (([] ++ (List.drop (Int.toNat (1 : Int)) a9)), a8.2))))))))), (true, ())), ())) else none) else none) else none) else X0) else none) else X0
noncomputable def E112 (c215 : F215) (c216 : F216) := mkE [g215 c215, g216 c216]
theorem s112 (c215 : F215) (c216 : F216)  (y) : tevF (E112 c215 c216 ) Tryz.f112 i112 o112 y = m112 c215 c216  y := by kernel_rfl
noncomputable def r112 : F112 := m112 r215 r216 
theorem k112 : CK Tryz.prog (g112 r112) := fn0 (s112 r215 r216) (fnsL_ok ⟨k215, k216, trivial⟩) rfl mixed (by kernel_rfl) (by kernel_rfl) (by kernel_rfl)
@[reducible] def i284 : List Ty := [.p [.int .i64, .sl true .t], .v (.int .i64)]
@[reducible] def o284 : List Ty := [.a q11, .v (.bool)]
abbrev R284 := Option (PTup o284 × BTup i284)
abbrev F284 := PTup i284 → R284
abbrev g284 (c : F284) : Nat × Tev.Fn := (284, ⟨i284, o284, c, .nor⟩)
noncomputable def m284   (y : PTup i284) : Option (PTup o284 × BTup i284) :=
  bif (eqI (lenI y.1.2.1) (0 : Int)) then (some ((((0 : Int), ((0 : Int), ((0 : Int), ()))), (false, ())), (y.1, ())))
  else bif (ltI (0 : Int) (lenI y.1.2.1)) then (bif (neI (rdE .t y.1.2.1 (0 : Int)).1 y.2.1) then (some ((((0 : Int), ((0 : Int), ((0 : Int), ()))), (false, ())), (y.1, ())))
   else bif (ltI (0 : Int) (lenI y.1.2.1)) then (bif (leI (1 : Int) (lenI y.1.2.1)) then (some ((((rdE .t y.1.2.1 (0 : Int)).1, ((rdE .t y.1.2.1 (0 : Int)).2.1, ((rdE .t y.1.2.1 (0 : Int)).2.2, ()))), (true, ())), ((y.1.1, ((List.drop (Int.toNat (1 : Int)) y.1.2.1), ())), ())))
    else none)
   else none)
  else none
noncomputable def E284  := mkE []
theorem s284   (y) : tevF (E284  ) Tryz.f284 i284 o284 y = m284   y := by kernel_rfl
noncomputable def r284 : F284 := m284  
theorem k284 : CK Tryz.prog (g284 r284) := fn0 (s284 ) (fnsL_ok trivial) rfl mixed (by kernel_rfl) (by kernel_rfl) (by kernel_rfl)
@[reducible] def i285 : List Ty := [.p [.int .i64, .int .i64, .int .i64, .int .i64, .int .i64, .bool, .sl true .i, .sl false .i], .v (.int .i64), .v (.int .i64)]
@[reducible] def o285 : List Ty := []
abbrev R285 := Option (PTup o285 × BTup i285)
abbrev F285 := PTup i285 → R285
abbrev g285 (c : F285) : Nat × Tev.Fn := (285, ⟨i285, o285, c, .nor⟩)
noncomputable def m285 (c316 : F316) (c294 : F294)  (y : PTup i285) : Option (PTup o285 × BTup i285) :=
  (c294 y.2.2).bind fun r0 =>
  bif (eqI y.2.1 (0 : Int)) then (some ((), ((y.1.1, (r0.1.1, y.1.2.2)), ())))
  else bif (eqI y.2.1 (1 : Int)) then (some ((), ((y.1.1, (y.1.2.1, (r0.1.1, y.1.2.2.2))), ())))
  else bif (eqI y.2.1 (3 : Int)) then (some ((), ((y.1.1, (y.1.2.1, (y.1.2.2.1, ((Int.tmod r0.1.1 (16 : Int)), y.1.2.2.2.2)))), ())))
  else bif (eqI y.2.1 (4 : Int)) then (bif (leI (0 : Int) y.1.2.2.2.1) then (bif (ltI y.1.2.2.2.1 (lenI y.1.2.2.2.2.2.2.1)) then ((c316 ((y.1.1, (y.1.2.1, (y.1.2.2.1, (y.1.2.2.2.1, (y.1.2.2.2.2.1, (y.1.2.2.2.2.2.1, ((List.set y.1.2.2.2.2.2.2.1 (Int.toNat y.1.2.2.2.1) (Int.tmod r0.1.1 (64 : Int))), y.1.2.2.2.2.2.2.2))))))), ())).bind fun r1 =>
     some ((), ((r1.2.1.1, (r1.2.1.2.1, (r1.2.1.2.2.1, (r1.2.1.2.2.2.1, (r1.2.1.2.2.2.2.1, (r1.2.1.2.2.2.2.2.1, ((List.set y.1.2.2.2.2.2.2.1 (Int.toNat y.1.2.2.2.1) (Int.tmod r0.1.1 (64 : Int))), y.1.2.2.2.2.2.2.2))))))), ())))
    else none)
   else none)
  else bif (eqI y.2.1 (5 : Int)) then (some ((), ((y.1.1, (y.1.2.1, (y.1.2.2.1, (y.1.2.2.2.1, ((Int.tmod r0.1.1 (64 : Int)), y.1.2.2.2.2.2))))), ())))
  else some ((), (y.1, ()))
noncomputable def E285 (c316 : F316) (c294 : F294) := mkE [g316 c316, g294 c294]
theorem s285 (c316 : F316) (c294 : F294)  (y) : tevF (E285 c316 c294 ) Tryz.f285 i285 o285 y = m285 c316 c294  y := by kernel_rfl
noncomputable def r285 : F285 := m285 r316 r294 
theorem k285 : CK Tryz.prog (g285 r285) := fn0 (s285 r316 r294) (fnsL_ok ⟨k316, k294, trivial⟩) rfl mixed (by kernel_rfl) (by kernel_rfl) (by kernel_rfl)
@[reducible] def i308 : List Ty := [.r q2, .v (.int .i64)]
@[reducible] def o308 : List Ty := [.v (.int .i64)]
abbrev R308 := Option (PTup o308 × BTup i308)
abbrev F308 := PTup i308 → R308
abbrev g308 (c : F308) : Nat × Tev.Fn := (308, ⟨i308, o308, c, .nor⟩)
noncomputable def m308   (y : PTup i308) : Option (PTup o308 × BTup i308) :=
  bif (leI (0 : Int) (Int.tmod (wI ((wI ((Int.tmod y.2.1 (8 : Int)) + y.1.2.2.1)) + (wI (Int.tdiv y.2.1 (8 : Int))))) (16 : Int))) then (bif (ltI (Int.tmod (wI ((wI ((Int.tmod y.2.1 (8 : Int)) + y.1.2.2.1)) + (wI (Int.tdiv y.2.1 (8 : Int))))) (16 : Int)) (lenI y.1.2.2.2.2.2.2.1)) then (some (((bXor Go.IntKind.i64 (rdE .i y.1.2.2.2.2.2.2.1 (Int.tmod (wI ((wI ((Int.tmod y.2.1 (8 : Int)) + y.1.2.2.1)) + (wI (Int.tdiv y.2.1 (8 : Int))))) (16 : Int))) y.1.2.2.2.2.1), ()), ()))
   else none)
  else none
noncomputable def E308  := mkE []
theorem s308   (y) : tevF (E308  ) Tryz.f308 i308 o308 y = m308   y := by kernel_rfl
noncomputable def r308 : F308 := m308  
theorem k308 : CK Tryz.prog (g308 r308) := fn0 (s308 ) (fnsL_ok trivial) rfl mixed (by kernel_rfl) (by kernel_rfl) (by kernel_rfl)
@[reducible] def i255 : List Ty := [.p [.int .i64, .int .i64, .int .i64, .int .i64, .int .i64, .bool, .sl false .i, .sl true .i]]
@[reducible] def o255 : List Ty := [.v (.bool), .v (.sl true .i), .v (.bool)]
abbrev R255 := Option (PTup o255 × BTup i255)
abbrev F255 := PTup i255 → R255
abbrev g255 (c : F255) : Nat × Tev.Fn := (255, ⟨i255, o255, c, .nor⟩)
noncomputable def m255 (c308 : F308)  (y : PTup i255) : Option (PTup o255 × BTup i255) :=
  bif (ltI (Int.tmod y.1.1 (64 : Int)) (48 : Int)) then ((c308 (((wI (y.1.1 + (1 : Int))), y.1.2), ((Int.tmod y.1.1 (64 : Int)), ()))).bind fun r0 =>
   bif (leN ((List.length y.1.2.2.2.2.2.2.2.1) + (List.length (r0.1.1 :: []))) (E.most .i)) then (some ((false, ([], (false, ()))), (((wI (y.1.1 + (1 : Int))), (y.1.2.1, (y.1.2.2.1, (y.1.2.2.2.1, (y.1.2.2.2.2.1, (y.1.2.2.2.2.2.1, (y.1.2.2.2.2.2.2.1, ((y.1.2.2.2.2.2.2.2.1 ++ (r0.1.1 :: [])), ())))))))), ())))
   else none)
  else bif (eqI (Int.tmod y.1.1 (64 : Int)) (48 : Int)) then (some ((true, (y.1.2.2.2.2.2.2.2.1, ((ltI (127 : Int) y.1.2.1), ()))), (((wI (y.1.1 + (1 : Int))), (y.1.2.1, (y.1.2.2.1, (y.1.2.2.2.1, (y.1.2.2.2.2.1, (true, (y.1.2.2.2.2.2.2.1, ([], ())))))))), ())))
  else bif (eqI (Int.tmod y.1.1 (64 : Int)) (63 : Int)) then (some ((false, ([], (false, ()))), (((wI (y.1.1 + (1 : Int))), (y.1.2.1, (y.1.2.2.1, (y.1.2.2.2.1, (y.1.2.2.2.2.1, (false, y.1.2.2.2.2.2.2)))))), ())))
  else some ((false, ([], (false, ()))), (((wI (y.1.1 + (1 : Int))), y.1.2), ()))
noncomputable def E255 (c308 : F308) := mkE [g308 c308]
theorem s255 (c308 : F308)  (y) : tevF (E255 c308 ) Tryz.f255 i255 o255 y = m255 c308  y := by kernel_rfl
noncomputable def r255 : F255 := m255 r308 
theorem k255 : CK Tryz.prog (g255 r255) := fn0 (s255 r308) (fnsL_ok ⟨k308, trivial⟩) rfl mixed (by kernel_rfl) (by kernel_rfl) (by kernel_rfl)
@[reducible] def i217 : List Ty := [.p q12, .v (.int .i64)]
@[reducible] def o217 : List Ty := [.v (.bool)]
abbrev R217 := Option (PTup o217 × BTup i217)
abbrev F217 := PTup i217 → R217
abbrev g217 (c : F217) : Nat × Tev.Fn := (217, ⟨i217, o217, c, .nor⟩)
noncomputable def m217 (c255 : F255) (c285 : F285) (c284 : F284)  (y : PTup i217) : Option (PTup o217 × BTup i217) :=
  let a0 := y.1; let a1 := a0.2; let a2 := a1.2; let a3 := a2.2; let a4 := a3.2; let a5 := a4.2; let a6 := a5.2; let a7 := a6.2; let a8 := a7.2.2; (c284 ((a7.2.1, (a8.1, ())), (a0.1, ()))).bind fun r0 =>
  bif r0.1.2.1 then ((c285 ((a0.1, (a1.1, (a2.1, (a3.1, (a4.1, (a5.1, (a6.1, (a7.1, ())))))))), r0.1.1.2)).bind fun r1 =>
   some ((true, ()), ((r1.2.1.1, (r1.2.1.2.1, (r1.2.1.2.2.1, (r1.2.1.2.2.2.1, (r1.2.1.2.2.2.2.1, (r1.2.1.2.2.2.2.2.1, (r1.2.1.2.2.2.2.2.2.1, (a7.1, (r0.2.1.1, (r0.2.1.2.1, a8.2)))))))))), ())))
  else bif (leI (mnI y.2.1 (20000 : Int)) a0.1) then (some ((false, ()), ((a0.1, (a1.1, (a2.1, (a3.1, (a4.1, (a5.1, (a6.1, (a7.1, (r0.2.1.1, (r0.2.1.2.1, a8.2)))))))))), ())))
  else (c255 ((a0.1, (a1.1, (a2.1, (a3.1, (a4.1, (a5.1, (a6.1, (a7.1, ())))))))), ())).bind fun r1 =>
  bif r1.1.1 then (bif (leN ((List.length a8.2.1) + (List.length (r1.1.2.1 :: []))) (E.most .n)) then (some ((true, ()), ((r1.2.1.1, (r1.2.1.2.1, (r1.2.1.2.2.1, (r1.2.1.2.2.2.1, (r1.2.1.2.2.2.2.1, (r1.2.1.2.2.2.2.2.1, (a6.1, (r1.2.1.2.2.2.2.2.2.2.1, (r0.2.1.1, (r0.2.1.2.1, ((a8.2.1 ++ (r1.1.2.1 :: [])), ()))))))))))), ())))
   else none)
  else some ((true, ()), ((r1.2.1.1, (r1.2.1.2.1, (r1.2.1.2.2.1, (r1.2.1.2.2.2.1, (r1.2.1.2.2.2.2.1, (r1.2.1.2.2.2.2.2.1, (a6.1, (r1.2.1.2.2.2.2.2.2.2.1, (r0.2.1.1, (r0.2.1.2.1, a8.2)))))))))), ()))
noncomputable def E217 (c255 : F255) (c285 : F285) (c284 : F284) := mkE [g255 c255, g285 c285, g284 c284]
theorem s217 (c255 : F255) (c285 : F285) (c284 : F284)  (y) : tevF (E217 c255 c285 c284 ) Tryz.f217 i217 o217 y = m217 c255 c285 c284  y := by kernel_rfl
noncomputable def r217 : F217 := m217 r255 r285 r284 
theorem k217 : CK Tryz.prog (g217 r217) := fn0 (s217 r255 r285 r284) (fnsL_ok ⟨k255, k285, k284, trivial⟩) rfl mixed (by kernel_rfl) (by kernel_rfl) (by kernel_rfl)
@[reducible] def i286 : List Ty := [.a q13, .v (.int .i64), .v (.int .i64)]
@[reducible] def o286 : List Ty := [.a q13]
abbrev R286 := Option (PTup o286 × BTup i286)
abbrev F286 := PTup i286 → R286
abbrev g286 (c : F286) : Nat × Tev.Fn := (286, ⟨i286, o286, c, .nor⟩)
noncomputable def m286 (c175 : F175) (c294 : F294)  (y : PTup i286) : Option (PTup o286 × BTup i286) :=
  (c175 (y.1, ())).bind fun r0 =>
  bif (!r0.1.1) then (some ((y.1, ()), ()))
  else (c294 y.2.2).bind fun r1 =>
  bif (eqI y.2.1 (0 : Int)) then (some (((y.1.1, (r1.1.1, y.1.2.2)), ()), ()))
  else bif (eqI y.2.1 (1 : Int)) then (some (((y.1.1, (y.1.2.1, (y.1.2.2.1, (y.1.2.2.2.1, ((Int.tmod r1.1.1 (32 : Int)), y.1.2.2.2.2.2))))), ()), ()))
  else bif (eqI y.2.1 (2 : Int)) then (bif y.1.2.2.2.2.2.2.1 then (some (((y.1.1, (y.1.2.1, (y.1.2.2.1, (y.1.2.2.2.1, (y.1.2.2.2.2.1, ((eqI (Int.tmod r1.1.1 (2 : Int)) (1 : Int)), ((eqI (Int.tmod r1.1.1 (2 : Int)) (1 : Int)), ()))))))), ()), ()))
   else some (((y.1.1, (y.1.2.1, (y.1.2.2.1, (y.1.2.2.2.1, (y.1.2.2.2.2.1, ((eqI (Int.tmod r1.1.1 (2 : Int)) (1 : Int)), (false, ()))))))), ()), ()))
  else bif (eqI y.2.1 (3 : Int)) then (some (((y.1.1, (y.1.2.1, (y.1.2.2.1, (y.1.2.2.2.1, (y.1.2.2.2.2.1, (y.1.2.2.2.2.2.1, (false, ()))))))), ()), ()))
  else some ((y.1, ()), ())
noncomputable def E286 (c175 : F175) (c294 : F294) := mkE [g175 c175, g294 c294]
theorem s286 (c175 : F175) (c294 : F294)  (y) : tevF (E286 c175 c294 ) Tryz.f286 i286 o286 y = m286 c175 c294  y := by kernel_rfl
noncomputable def r286 : F286 := m286 r175 r294 
theorem k286 : CK Tryz.prog (g286 r286) := fn0 (s286 r175 r294) (fnsL_ok ⟨k175, k294, trivial⟩) rfl mixed (by kernel_rfl) (by kernel_rfl) (by kernel_rfl)
@[reducible] def i256 : List Ty := [.p q13]
@[reducible] def o256 : List Ty := [.v (.int .i64), .v (.bool)]
abbrev R256 := Option (PTup o256 × BTup i256)
abbrev F256 := PTup i256 → R256
abbrev g256 (c : F256) : Nat × Tev.Fn := (256, ⟨i256, o256, c, .nor⟩)
noncomputable def m256   (y : PTup i256) : Option (PTup o256 × BTup i256) :=
  let a0 := y.1; let a1 := a0.1; let a2 := a0.2; let a3 := a2.1; let a4 := a2.2; let a5 := a4.1; let a6 := a4.2; let a7 := a6.1; let a8 := a6.2; let a9 := a8.1; let a10 := a8.2; let a11 := a10.1; let X0 : R256 := bif (! (eqI (Int.tmod a1 (16 : Int)) (15 : Int))) then (some (((0 : Int), ((eqI (Int.tmod a1 (16 : Int)) (15 : Int)), ())), (((wI (a1 + (1 : Int))), (a3, (a3, ((wI ((1 : Int) - a7)), a8)))), ()))) else bif (eqI a9 (0 : Int)) then (some (((0 : Int), ((eqI (Int.tmod a1 (16 : Int)) (15 : Int)), ())), (((wI (a1 + (1 : Int))), (a3, (a3, ((wI ((1 : Int) - a7)), a8)))), ()))) else some (((wI ((8 : Int) * (wI ((1 : Int) - a7)))), (true, ())), (((wI (a1 + (1 : Int))), (a3, (a3, ((wI ((1 : Int) - a7)), a8)))), ())); let X1 : R256 := bif (! (eqI (Int.tmod a1 (16 : Int)) (15 : Int))) then (some (((0 : Int), ((eqI (Int.tmod a1 (16 : Int)) (15 : Int)), ())), (((wI (a1 + (1 : Int))), (a3, ((wI (a5 - (1 : Int))), a6))), ()))) else bif (eqI a9 (0 : Int)) then (some (((0 : Int), ((eqI (Int.tmod a1 (16 : Int)) (15 : Int)), ())), (((wI (a1 + (1 : Int))), (a3, ((wI (a5 - (1 : Int))), a6))), ()))) else some (((wI ((8 : Int) * a7)), (true, ())), (((wI (a1 + (1 : Int))), (a3, ((wI (a5 - (1 : Int))), a6))), ())); let X2 : R256 := bif (! (eqI (Int.tmod a1 (16 : Int)) (15 : Int))) then (some (((0 : Int), ((eqI (Int.tmod a1 (16 : Int)) (15 : Int)), ())), (((wI (a1 + (1 : Int))), (a3, (a3, a6))), ()))) else bif (eqI a9 (0 : Int)) then (some (((0 : Int), ((eqI (Int.tmod a1 (16 : Int)) (15 : Int)), ())), (((wI (a1 + (1 : Int))), (a3, (a3, a6))), ()))) else some (((wI ((8 : Int) * a7)), (true, ())), (((wI (a1 + (1 : Int))), (a3, (a3, a6))), ())); let X3 : R256 := some (((0 : Int), ((eqI (Int.tmod a1 (16 : Int)) (15 : Int)), ())), (((wI (a1 + (1 : Int))), (a3, ((wI (a5 - (1 : Int))), (a7, ((wI (a9 - (1 : Int))), (a11, (a11, ()))))))), ())); let X4 : R256 := some (((0 : Int), ((eqI (Int.tmod a1 (16 : Int)) (15 : Int)), ())), (((wI (a1 + (1 : Int))), (a3, (a3, ((wI ((1 : Int) - a7)), ((wI (a9 - (1 : Int))), (a11, (a11, ()))))))), ())); let X5 : R256 := some (((0 : Int), ((eqI (Int.tmod a1 (16 : Int)) (15 : Int)), ())), (((wI (a1 + (1 : Int))), (a3, ((wI (a5 - (1 : Int))), (a7, ((wI (a9 - (1 : Int))), (a11, (false, ()))))))), ())); let X6 : R256 := some (((0 : Int), ((eqI (Int.tmod a1 (16 : Int)) (15 : Int)), ())), (((wI (a1 + (1 : Int))), (a3, ((wI (a5 - (1 : Int))), (a7, ((wI (a9 - (1 : Int))), (a11, (true, ()))))))), ())); let X7 : R256 := some (((0 : Int), ((eqI (Int.tmod a1 (16 : Int)) (15 : Int)), ())), (((wI (a1 + (1 : Int))), (a3, (a3, ((wI ((1 : Int) - a7)), ((wI (a9 - (1 : Int))), (a11, (false, ()))))))), ())); let X8 : R256 := some (((0 : Int), ((eqI (Int.tmod a1 (16 : Int)) (15 : Int)), ())), (((wI (a1 + (1 : Int))), (a3, (a3, ((wI ((1 : Int) - a7)), ((wI (a9 - (1 : Int))), (a11, (true, ()))))))), ())); let X9 : R256 := some (((0 : Int), ((eqI (Int.tmod a1 (16 : Int)) (15 : Int)), ())), (((wI (a1 + (1 : Int))), (a3, (a3, (a7, ((wI (a9 - (1 : Int))), (a11, (a11, ()))))))), ())); let X10 : R256 := some (((0 : Int), ((eqI (Int.tmod a1 (16 : Int)) (15 : Int)), ())), (((wI (a1 + (1 : Int))), (a3, (a3, (a7, ((wI (a9 - (1 : Int))), (a11, (false, ()))))))), ())); let X11 : R256 := some (((0 : Int), ((eqI (Int.tmod a1 (16 : Int)) (15 : Int)), ())), (((wI (a1 + (1 : Int))), (a3, (a3, (a7, ((wI (a9 - (1 : Int))), (a11, (true, ()))))))), ())); bif (eqI a5 (0 : Int)) then (bif (ltI (0 : Int) a9) then (bif (eqI (Int.tmod a1 (32 : Int)) (0 : Int)) then (bif (ltI (0 : Int) a9) then (bif a10.2.1 then (bif (! (eqI (Int.tmod a1 (16 : Int)) (15 : Int))) then X8 else bif (eqI (wI (a9 - (1 : Int))) (0 : Int)) then X8 else some (((wI ((8 : Int) * (wI ((1 : Int) - a7)))), (true, ())), (((wI (a1 + (1 : Int))), (a3, (a3, ((wI ((1 : Int) - a7)), ((wI (a9 - (1 : Int))), (a11, (true, ()))))))), ()))) else bif (eqI (wI (a9 - (1 : Int))) (0 : Int)) then (bif (! (eqI (Int.tmod a1 (16 : Int)) (15 : Int))) then X4 else bif (eqI (wI (a9 - (1 : Int))) (0 : Int)) then X4 else some (((wI ((8 : Int) * (wI ((1 : Int) - a7)))), (true, ())), (((wI (a1 + (1 : Int))), (a3, (a3, ((wI ((1 : Int) - a7)), ((wI (a9 - (1 : Int))), (a11, (a11, ()))))))), ()))) else bif (! (eqI (Int.tmod a1 (16 : Int)) (15 : Int))) then X7 else bif (eqI (wI (a9 - (1 : Int))) (0 : Int)) then X7 else some (((wI ((8 : Int) * (wI ((1 : Int) - a7)))), (true, ())), (((wI (a1 + (1 : Int))), (a3, (a3, ((wI ((1 : Int) - a7)), ((wI (a9 - (1 : Int))), (a11, (false, ()))))))), ()))) else X0) else X0) else bif (eqI (Int.tmod a1 (32 : Int)) (0 : Int)) then (bif (ltI (0 : Int) a9) then (bif a10.2.1 then (bif (! (eqI (Int.tmod a1 (16 : Int)) (15 : Int))) then X11 else bif (eqI (wI (a9 - (1 : Int))) (0 : Int)) then X11 else some (((wI ((8 : Int) * a7)), (true, ())), (((wI (a1 + (1 : Int))), (a3, (a3, (a7, ((wI (a9 - (1 : Int))), (a11, (true, ()))))))), ()))) else bif (eqI (wI (a9 - (1 : Int))) (0 : Int)) then (bif (! (eqI (Int.tmod a1 (16 : Int)) (15 : Int))) then X9 else bif (eqI (wI (a9 - (1 : Int))) (0 : Int)) then X9 else some (((wI ((8 : Int) * a7)), (true, ())), (((wI (a1 + (1 : Int))), (a3, (a3, (a7, ((wI (a9 - (1 : Int))), (a11, (a11, ()))))))), ()))) else bif (! (eqI (Int.tmod a1 (16 : Int)) (15 : Int))) then X10 else bif (eqI (wI (a9 - (1 : Int))) (0 : Int)) then X10 else some (((wI ((8 : Int) * a7)), (true, ())), (((wI (a1 + (1 : Int))), (a3, (a3, (a7, ((wI (a9 - (1 : Int))), (a11, (false, ()))))))), ()))) else X2) else X2) else bif (eqI (Int.tmod a1 (32 : Int)) (0 : Int)) then (bif (ltI (0 : Int) a9) then (bif a10.2.1 then (bif (! (eqI (Int.tmod a1 (16 : Int)) (15 : Int))) then X6 else bif (eqI (wI (a9 - (1 : Int))) (0 : Int)) then X6 else some (((wI ((8 : Int) * a7)), (true, ())), (((wI (a1 + (1 : Int))), (a3, ((wI (a5 - (1 : Int))), (a7, ((wI (a9 - (1 : Int))), (a11, (true, ()))))))), ()))) else bif (eqI (wI (a9 - (1 : Int))) (0 : Int)) then (bif (! (eqI (Int.tmod a1 (16 : Int)) (15 : Int))) then X3 else bif (eqI (wI (a9 - (1 : Int))) (0 : Int)) then X3 else some (((wI ((8 : Int) * a7)), (true, ())), (((wI (a1 + (1 : Int))), (a3, ((wI (a5 - (1 : Int))), (a7, ((wI (a9 - (1 : Int))), (a11, (a11, ()))))))), ()))) else bif (! (eqI (Int.tmod a1 (16 : Int)) (15 : Int))) then X5 else bif (eqI (wI (a9 - (1 : Int))) (0 : Int)) then X5 else some (((wI ((8 : Int) * a7)), (true, ())), (((wI (a1 + (1 : Int))), (a3, ((wI (a5 - (1 : Int))), (a7, ((wI (a9 - (1 : Int))), (a11, (false, ()))))))), ()))) else X1) else X1
noncomputable def E256  := mkE []
theorem s256   (y) : tevF (E256  ) Tryz.f256 i256 o256 y = m256   y := by kernel_rfl
noncomputable def r256 : F256 := m256  
theorem k256 : CK Tryz.prog (g256 r256) := fn0 (s256 ) (fnsL_ok trivial) rfl mixed (by kernel_rfl) (by kernel_rfl) (by kernel_rfl)
@[reducible] def i218 : List Ty := [.p q14, .v (.int .i64)]
@[reducible] def o218 : List Ty := [.v (.bool)]
abbrev R218 := Option (PTup o218 × BTup i218)
abbrev F218 := PTup i218 → R218
abbrev g218 (c : F218) : Nat × Tev.Fn := (218, ⟨i218, o218, c, .nor⟩)
noncomputable def m218 (c256 : F256) (c284 : F284) (c286 : F286)  (y : PTup i218) : Option (PTup o218 × BTup i218) :=
  (c284 ((y.1.2.2.2.2.2.2.2.1, (y.1.2.2.2.2.2.2.2.2.1, ())), (y.1.1, ()))).bind fun r0 =>
  bif r0.1.2.1 then ((c286 ((y.1.1, (y.1.2.1, (y.1.2.2.1, (y.1.2.2.2.1, (y.1.2.2.2.2.1, (y.1.2.2.2.2.2.1, (y.1.2.2.2.2.2.2.1, ()))))))), r0.1.1.2)).bind fun r1 =>
   some ((true, ()), ((r1.1.1.1, (r1.1.1.2.1, (r1.1.1.2.2.1, (r1.1.1.2.2.2.1, (r1.1.1.2.2.2.2.1, (r1.1.1.2.2.2.2.2.1, (r1.1.1.2.2.2.2.2.2.1, (r0.2.1.1, (r0.2.1.2.1, y.1.2.2.2.2.2.2.2.2.2))))))))), ())))
  else bif (leI (mnI y.2.1 (20000 : Int)) y.1.1) then (some ((false, ()), ((y.1.1, (y.1.2.1, (y.1.2.2.1, (y.1.2.2.2.1, (y.1.2.2.2.2.1, (y.1.2.2.2.2.2.1, (y.1.2.2.2.2.2.2.1, (r0.2.1.1, (r0.2.1.2.1, y.1.2.2.2.2.2.2.2.2.2))))))))), ())))
  else (c256 ((y.1.1, (y.1.2.1, (y.1.2.2.1, (y.1.2.2.2.1, (y.1.2.2.2.2.1, (y.1.2.2.2.2.2.1, (y.1.2.2.2.2.2.2.1, ()))))))), ())).bind fun r1 =>
  bif r1.1.2.1 then (bif (leN ((List.length y.1.2.2.2.2.2.2.2.2.2.1) + (List.length (r1.1.1 :: []))) (E.most .i)) then (some ((true, ()), ((r1.2.1.1, (r1.2.1.2.1, (r1.2.1.2.2.1, (r1.2.1.2.2.2.1, (r1.2.1.2.2.2.2.1, (r1.2.1.2.2.2.2.2.1, (r1.2.1.2.2.2.2.2.2.1, (r0.2.1.1, (r0.2.1.2.1, ((y.1.2.2.2.2.2.2.2.2.2.1 ++ (r1.1.1 :: [])), ())))))))))), ())))
   else none)
  else some ((true, ()), ((r1.2.1.1, (r1.2.1.2.1, (r1.2.1.2.2.1, (r1.2.1.2.2.2.1, (r1.2.1.2.2.2.2.1, (r1.2.1.2.2.2.2.2.1, (r1.2.1.2.2.2.2.2.2.1, (r0.2.1.1, (r0.2.1.2.1, y.1.2.2.2.2.2.2.2.2.2))))))))), ()))
noncomputable def E218 (c256 : F256) (c284 : F284) (c286 : F286) := mkE [g256 c256, g284 c284, g286 c286]
theorem s218 (c256 : F256) (c284 : F284) (c286 : F286)  (y) : tevF (E218 c256 c284 c286 ) Tryz.f218 i218 o218 y = m218 c256 c284 c286  y := by kernel_rfl
noncomputable def r218 : F218 := m218 r256 r284 r286 
theorem k218 : CK Tryz.prog (g218 r218) := fn0 (s218 r256 r284 r286) (fnsL_ok ⟨k256, k284, k286, trivial⟩) rfl mixed (by kernel_rfl) (by kernel_rfl) (by kernel_rfl)
@[reducible] def i36 : List Ty := [.v (.sl true .i), .v (.int .i64)]
@[reducible] def o36 : List Ty := [.v (.int .i64), .v (.sl true .i)]
abbrev R36 := Option (PTup o36 × BTup i36)
abbrev F36 := PTup i36 → R36
abbrev g36 (c : F36) : Nat × Tev.Fn := (36, ⟨i36, o36, c, .inp⟩)
@[reducible] def lc36_0 : List Ty := []
@[reducible] def lb36_0 : List Ty := []
@[reducible] def lv36_0 : List Ty := [.v (.int .i64), .v (.int .i64), .v (.sl true .i)]
@[reducible] def lr36_0 : List Ty := []
abbrev R36_0 := Option (Sum (PTup lv36_0) (PTup lr36_0) × BTup lb36_0)
abbrev B36_0 := PTup lb36_0 → PTup lv36_0 → R36_0
abbrev A36_0 := PTup lc36_0 → B36_0
noncomputable def w36_0   (again : B36_0) (x : PTup lc36_0) (y : PTup lb36_0) (z : PTup lv36_0) : R36_0 :=
  bif (ltI z.2.1 (lenI z.2.2.1)) then (bif (leI (0 : Int) z.2.1) then (bif (ltI z.2.1 (lenI z.2.2.1)) then (again () ((wI (z.1 + (1 : Int))), ((wI (z.2.1 + (1 : Int))), ((List.set z.2.2.1 (Int.toNat z.2.1) z.1), ()))))
    else none)
   else none)
  else some ((Sum.inl z), ())
noncomputable def e36_0 (l : A36_0) : LoopE := ⟨[], lc36_0, [], lb36_0, [1, 5, 0], lv36_0, [], lr36_0, 0, [], l⟩
noncomputable def m36  (l0 : A36_0) (y : PTup i36) : Option (PTup o36 × BTup i36) :=
  (l0 () () (y.2.1, ((0 : Int), (y.1, ())))).bind fun r0 =>
  sumElim r0.1 (fun r1 => some ((r1.1, r1.2.2), ()))
  (fun r1 => none)
noncomputable def E36  (l0 : A36_0) : CEnv := ⟨⟨Tryz.prog, fnsL []⟩, loopsL [(2, e36_0 l0)]⟩
theorem t36_0  (l0 : A36_0) (again) (x y z) : loopRound (E36  l0) (loopAt (bodyOf Tryz.f36) 0) (e36_0 l0) Tryz.f36.ntmps again x y z = w36_0   again x y z := by kernel_rfl
noncomputable def n36_0   : Nat → A36_0
  | 0, _, _, _ => none
  | n + 1, x, y, z => w36_0   (fun y z => n36_0   n x y z) x y z
theorem s36  (l0 : A36_0) (y) : tevM (E36  l0) Tryz.f36 i36 o36 y = m36  l0 y := by kernel_rfl
noncomputable def L36_0 : A36_0 := n36_0   fuel
noncomputable def r36 : F36 := m36  L36_0
theorem k36 : CK Tryz.prog (g36 r36) := by
  have hE : ∀ g f, (E36  L36_0).env.fns g = some f → CallOk Tryz.prog g f := fnsL_ok trivial
  have h0 : LoopOk Tryz.prog Tryz.f36.ntmps (loopAt (bodyOf Tryz.f36) 0) (e36_0 L36_0) := lp_ok (E := E36  L36_0) rfl hE mixed (AllLoops.of_list (l := []) (by kernel_rfl) trivial) (n36_0  ) (fun _ _ _ => rfl) (fun n x y z => t36_0  L36_0 _ x y z) rfl
  exact fnM_ok (E := E36  L36_0) rfl hE mixed (by kernel_rfl) (by kernel_rfl) (AllLoops.of_list (l := [(loopAt (bodyOf Tryz.f36) 0)]) (by kernel_rfl) (.one (by kernel_rfl) h0 trivial)) (s36  L36_0)
@[reducible] def i164 : List Ty := [.v (.sl true .n), .v (.int .i64)]
@[reducible] def o164 : List Ty := [.v (.int .i64), .v (.sl true .n)]
abbrev R164 := Option (PTup o164 × BTup i164)
abbrev F164 := PTup i164 → R164
abbrev g164 (c : F164) : Nat × Tev.Fn := (164, ⟨i164, o164, c, .inp⟩)
@[reducible] def lc164_0 : List Ty := []
@[reducible] def lb164_0 : List Ty := []
@[reducible] def lv164_0 : List Ty := [.v (.int .i64), .v (.int .i64), .v (.sl true .n)]
@[reducible] def lr164_0 : List Ty := []
abbrev R164_0 := Option (Sum (PTup lv164_0) (PTup lr164_0) × BTup lb164_0)
abbrev B164_0 := PTup lb164_0 → PTup lv164_0 → R164_0
abbrev A164_0 := PTup lc164_0 → B164_0
noncomputable def w164_0 (c36 : F36)  (again : B164_0) (x : PTup lc164_0) (y : PTup lb164_0) (z : PTup lv164_0) : R164_0 :=
  bif (ltI z.2.1 (lenI z.2.2.1)) then (bif (leI (0 : Int) z.2.1) then (bif (ltI z.2.1 (lenI z.2.2.1)) then ((c36 ((rdE .n z.2.2.1 z.2.1), (z.1, ()))).bind fun r0 =>
     again () (r0.1.1, ((wI (z.2.1 + (1 : Int))), ((List.set z.2.2.1 (Int.toNat z.2.1) r0.1.2.1), ()))))
    else none)
   else none)
  else some ((Sum.inl z), ())
noncomputable def e164_0 (l : A164_0) : LoopE := ⟨[], lc164_0, [], lb164_0, [1, 5, 0], lv164_0, [], lr164_0, 0, [], l⟩
noncomputable def m164 (c36 : F36) (l0 : A164_0) (y : PTup i164) : Option (PTup o164 × BTup i164) :=
  (l0 () () (y.2.1, ((0 : Int), (y.1, ())))).bind fun r0 =>
  sumElim r0.1 (fun r1 => some ((r1.1, r1.2.2), ()))
  (fun r1 => none)
noncomputable def E164 (c36 : F36) (l0 : A164_0) : CEnv := ⟨⟨Tryz.prog, fnsL [g36 c36]⟩, loopsL [(2, e164_0 l0)]⟩
theorem t164_0 (c36 : F36) (l0 : A164_0) (again) (x y z) : loopRound (E164 c36 l0) (loopAt (bodyOf Tryz.f164) 0) (e164_0 l0) Tryz.f164.ntmps again x y z = w164_0 c36  again x y z := by kernel_rfl
noncomputable def n164_0 (c36 : F36)  : Nat → A164_0
  | 0, _, _, _ => none
  | n + 1, x, y, z => w164_0 c36  (fun y z => n164_0 c36  n x y z) x y z
theorem s164 (c36 : F36) (l0 : A164_0) (y) : tevM (E164 c36 l0) Tryz.f164 i164 o164 y = m164 c36 l0 y := by kernel_rfl
noncomputable def L164_0 : A164_0 := n164_0 r36  fuel
noncomputable def r164 : F164 := m164 r36 L164_0
theorem k164 : CK Tryz.prog (g164 r164) := by
  have hE : ∀ g f, (E164 r36 L164_0).env.fns g = some f → CallOk Tryz.prog g f := fnsL_ok ⟨k36, trivial⟩
  have h0 : LoopOk Tryz.prog Tryz.f164.ntmps (loopAt (bodyOf Tryz.f164) 0) (e164_0 L164_0) := lp_ok (E := E164 r36 L164_0) rfl hE mixed (AllLoops.of_list (l := []) (by kernel_rfl) trivial) (n164_0 r36 ) (fun _ _ _ => rfl) (fun n x y z => t164_0 r36 L164_0 _ x y z) rfl
  exact fnM_ok (E := E164 r36 L164_0) rfl hE mixed (by kernel_rfl) (by kernel_rfl) (AllLoops.of_list (l := [(loopAt (bodyOf Tryz.f164) 0)]) (by kernel_rfl) (.one (by kernel_rfl) h0 trivial)) (s164 r36 L164_0)
@[reducible] def i77 : List Ty := [.a [.sl true .n], .v (.int .i64)]
@[reducible] def o77 : List Ty := [.v (.int .i64), .a [.sl true .n]]
abbrev R77 := Option (PTup o77 × BTup i77)
abbrev F77 := PTup i77 → R77
abbrev g77 (c : F77) : Nat × Tev.Fn := (77, ⟨i77, o77, c, .inp⟩)
noncomputable def m77 (c164 : F164)  (y : PTup i77) : Option (PTup o77 × BTup i77) :=
  (c164 (y.1.1, y.2)).bind fun r0 =>
  some ((r0.1.1, (r0.1.2, ())), ())
noncomputable def E77 (c164 : F164) := mkE [g164 c164]
theorem s77 (c164 : F164)  (y) : tevM (E77 c164 ) Tryz.f77 i77 o77 y = m77 c164  y := by kernel_rfl
noncomputable def r77 : F77 := m77 r164 
theorem k77 : CK Tryz.prog (g77 r77) := by
  exact fnM_ok (E := E77 r164 ) rfl (fnsL_ok ⟨k164, trivial⟩) mixed (by kernel_rfl) (by kernel_rfl) (AllLoops.of_list (l := []) (by kernel_rfl) trivial) (s77 r164 )
@[reducible] def i78 : List Ty := [.a q7, .v (.int .i64)]
@[reducible] def o78 : List Ty := [.v (.int .i64), .a q7]
abbrev R78 := Option (PTup o78 × BTup i78)
abbrev F78 := PTup i78 → R78
abbrev g78 (c : F78) : Nat × Tev.Fn := (78, ⟨i78, o78, c, .inp⟩)
noncomputable def m78 (c36 : F36)  (y : PTup i78) : Option (PTup o78 × BTup i78) :=
  (c36 (y.1.1, y.2)).bind fun r0 =>
  some ((r0.1.1, ((r0.1.2.1, y.1.2), ())), ())
noncomputable def E78 (c36 : F36) := mkE [g36 c36]
theorem s78 (c36 : F36)  (y) : tevM (E78 c36 ) Tryz.f78 i78 o78 y = m78 c36  y := by kernel_rfl
noncomputable def r78 : F78 := m78 r36 
theorem k78 : CK Tryz.prog (g78 r78) := by
  exact fnM_ok (E := E78 r36 ) rfl (fnsL_ok ⟨k36, trivial⟩) mixed (by kernel_rfl) (by kernel_rfl) (AllLoops.of_list (l := []) (by kernel_rfl) trivial) (s78 r36 )
@[reducible] def i100 : List Ty := [.a q10, .v (.int .i64)]
@[reducible] def o100 : List Ty := [.v (.int .i64), .a q10]
abbrev R100 := Option (PTup o100 × BTup i100)
abbrev F100 := PTup i100 → R100
abbrev g100 (c : F100) : Nat × Tev.Fn := (100, ⟨i100, o100, c, .inp⟩)
noncomputable def m100 (c36 : F36)  (y : PTup i100) : Option (PTup o100 × BTup i100) :=
  (c36 (y.1.2.2.2.2.2.2.1, y.2)).bind fun r0 =>
  (c36 (y.1.2.2.2.2.2.2.2.1, (r0.1.1, ()))).bind fun r1 =>
  some ((r1.1.1, ((y.1.1, (y.1.2.1, (y.1.2.2.1, (y.1.2.2.2.1, (y.1.2.2.2.2.1, (y.1.2.2.2.2.2.1, (r0.1.2.1, r1.1.2))))))), ())), ())
noncomputable def E100 (c36 : F36) := mkE [g36 c36]
theorem s100 (c36 : F36)  (y) : tevM (E100 c36 ) Tryz.f100 i100 o100 y = m100 c36  y := by kernel_rfl
noncomputable def r100 : F100 := m100 r36 
theorem k100 : CK Tryz.prog (g100 r100) := by
  exact fnM_ok (E := E100 r36 ) rfl (fnsL_ok ⟨k36, trivial⟩) mixed (by kernel_rfl) (by kernel_rfl) (AllLoops.of_list (l := []) (by kernel_rfl) trivial) (s100 r36 )
@[reducible] def i239 : List Ty := [.v (.sl true .t), .v (.int .i64)]
@[reducible] def o239 : List Ty := [.v (.int .i64), .v (.sl true .t)]
abbrev R239 := Option (PTup o239 × BTup i239)
abbrev F239 := PTup i239 → R239
abbrev g239 (c : F239) : Nat × Tev.Fn := (239, ⟨i239, o239, c, .inp⟩)
@[reducible] def lc239_0 : List Ty := []
@[reducible] def lb239_0 : List Ty := []
@[reducible] def lv239_0 : List Ty := [.v (.int .i64), .v (.int .i64), .v (.sl true .t)]
@[reducible] def lr239_0 : List Ty := []
abbrev R239_0 := Option (Sum (PTup lv239_0) (PTup lr239_0) × BTup lb239_0)
abbrev B239_0 := PTup lb239_0 → PTup lv239_0 → R239_0
abbrev A239_0 := PTup lc239_0 → B239_0
noncomputable def w239_0   (again : B239_0) (x : PTup lc239_0) (y : PTup lb239_0) (z : PTup lv239_0) : R239_0 :=
  bif (ltI z.2.1 (lenI z.2.2.1)) then (bif (leI (0 : Int) z.2.1) then (bif (ltI z.2.1 (lenI z.2.2.1)) then (bif (leI (0 : Int) z.2.1) then (bif (ltI z.2.1 (lenI (List.set z.2.2.1 (Int.toNat z.2.1) (setT (rdE .t z.2.2.1 z.2.1) z.1 ((0 : Nat) + (0 : Nat)))))) then (bif (leI (0 : Int) z.2.1) then (bif (ltI z.2.1 (lenI (List.set (List.set z.2.2.1 (Int.toNat z.2.1) (setT (rdE .t z.2.2.1 z.2.1) z.1 ((0 : Nat) + (0 : Nat)))) (Int.toNat z.2.1) (setT (rdE .t (List.set z.2.2.1 (Int.toNat z.2.1) (setT (rdE .t z.2.2.1 z.2.1) z.1 ((0 : Nat) + (0 : Nat)))) z.2.1) (wI (z.1 + (1 : Int))) ((0 : Nat) + (1 : Nat)))))) then (again () ((wI ((wI ((wI (z.1 + (1 : Int))) + (1 : Int))) + (1 : Int))), ((wI (z.2.1 + (1 : Int))), ((List.set (List.set (List.set z.2.2.1 (Int.toNat z.2.1) (setT (rdE .t z.2.2.1 z.2.1) z.1 ((0 : Nat) + (0 : Nat)))) (Int.toNat z.2.1) (setT (rdE .t (List.set z.2.2.1 (Int.toNat z.2.1) (setT (rdE .t z.2.2.1 z.2.1) z.1 ((0 : Nat) + (0 : Nat)))) z.2.1) (wI (z.1 + (1 : Int))) ((0 : Nat) + (1 : Nat)))) (Int.toNat z.2.1) (setT (rdE .t (List.set (List.set z.2.2.1 (Int.toNat z.2.1) (setT (rdE .t z.2.2.1 z.2.1) z.1 ((0 : Nat) + (0 : Nat)))) (Int.toNat z.2.1) (setT (rdE .t (List.set z.2.2.1 (Int.toNat z.2.1) (setT (rdE .t z.2.2.1 z.2.1) z.1 ((0 : Nat) + (0 : Nat)))) z.2.1) (wI (z.1 + (1 : Int))) ((0 : Nat) + (1 : Nat)))) z.2.1) (wI ((wI (z.1 + (1 : Int))) + (1 : Int))) ((0 : Nat) + (2 : Nat)))), ()))))
        else none)
       else none)
      else none)
     else none)
    else none)
   else none)
  else some ((Sum.inl z), ())
noncomputable def e239_0 (l : A239_0) : LoopE := ⟨[], lc239_0, [], lb239_0, [1, 5, 0], lv239_0, [], lr239_0, 0, [], l⟩
noncomputable def m239  (l0 : A239_0) (y : PTup i239) : Option (PTup o239 × BTup i239) :=
  (l0 () () (y.2.1, ((0 : Int), (y.1, ())))).bind fun r0 =>
  sumElim r0.1 (fun r1 => some ((r1.1, r1.2.2), ()))
  (fun r1 => none)
noncomputable def E239  (l0 : A239_0) : CEnv := ⟨⟨Tryz.prog, fnsL []⟩, loopsL [(2, e239_0 l0)]⟩
theorem t239_0  (l0 : A239_0) (again) (x y z) : loopRound (E239  l0) (loopAt (bodyOf Tryz.f239) 0) (e239_0 l0) Tryz.f239.ntmps again x y z = w239_0   again x y z := by kernel_rfl
noncomputable def n239_0   : Nat → A239_0
  | 0, _, _, _ => none
  | n + 1, x, y, z => w239_0   (fun y z => n239_0   n x y z) x y z
theorem s239  (l0 : A239_0) (y) : tevM (E239  l0) Tryz.f239 i239 o239 y = m239  l0 y := by kernel_rfl
noncomputable def L239_0 : A239_0 := n239_0   fuel
noncomputable def r239 : F239 := m239  L239_0
theorem k239 : CK Tryz.prog (g239 r239) := by
  have hE : ∀ g f, (E239  L239_0).env.fns g = some f → CallOk Tryz.prog g f := fnsL_ok trivial
  have h0 : LoopOk Tryz.prog Tryz.f239.ntmps (loopAt (bodyOf Tryz.f239) 0) (e239_0 L239_0) := lp_ok (E := E239  L239_0) rfl hE mixed (AllLoops.of_list (l := []) (by kernel_rfl) trivial) (n239_0  ) (fun _ _ _ => rfl) (fun n x y z => t239_0  L239_0 _ x y z) rfl
  exact fnM_ok (E := E239  L239_0) rfl hE mixed (by kernel_rfl) (by kernel_rfl) (AllLoops.of_list (l := [(loopAt (bodyOf Tryz.f239) 0)]) (by kernel_rfl) (.one (by kernel_rfl) h0 trivial)) (s239  L239_0)
@[reducible] def i165 : List Ty := [.a [.int .i64, .sl true .t], .v (.int .i64)]
@[reducible] def o165 : List Ty := [.v (.int .i64), .a [.int .i64, .sl true .t]]
abbrev R165 := Option (PTup o165 × BTup i165)
abbrev F165 := PTup i165 → R165
abbrev g165 (c : F165) : Nat × Tev.Fn := (165, ⟨i165, o165, c, .inp⟩)
noncomputable def m165 (c239 : F239)  (y : PTup i165) : Option (PTup o165 × BTup i165) :=
  (c239 (y.1.2.1, y.2)).bind fun r0 =>
  some ((r0.1.1, ((y.1.1, r0.1.2), ())), ())
noncomputable def E165 (c239 : F239) := mkE [g239 c239]
theorem s165 (c239 : F239)  (y) : tevM (E165 c239 ) Tryz.f165 i165 o165 y = m165 c239  y := by kernel_rfl
noncomputable def r165 : F165 := m165 r239 
theorem k165 : CK Tryz.prog (g165 r165) := by
  exact fnM_ok (E := E165 r239 ) rfl (fnsL_ok ⟨k239, trivial⟩) mixed (by kernel_rfl) (by kernel_rfl) (AllLoops.of_list (l := []) (by kernel_rfl) trivial) (s165 r239 )
@[reducible] def i79 : List Ty := [.a q12, .v (.int .i64)]
@[reducible] def o79 : List Ty := [.v (.int .i64), .a q12]
abbrev R79 := Option (PTup o79 × BTup i79)
abbrev F79 := PTup i79 → R79
abbrev g79 (c : F79) : Nat × Tev.Fn := (79, ⟨i79, o79, c, .inp⟩)
noncomputable def m79 (c164 : F164) (c100 : F100) (c165 : F165)  (y : PTup i79) : Option (PTup o79 × BTup i79) :=
  (c100 ((y.1.1, (y.1.2.1, (y.1.2.2.1, (y.1.2.2.2.1, (y.1.2.2.2.2.1, (y.1.2.2.2.2.2.1, (y.1.2.2.2.2.2.2.1, (y.1.2.2.2.2.2.2.2.1, ())))))))), y.2)).bind fun r0 =>
  (c165 ((y.1.2.2.2.2.2.2.2.2.1, (y.1.2.2.2.2.2.2.2.2.2.1, ())), (r0.1.1, ()))).bind fun r1 =>
  (c164 (y.1.2.2.2.2.2.2.2.2.2.2.1, (r1.1.1, ()))).bind fun r2 =>
  some ((r2.1.1, ((y.1.1, (y.1.2.1, (y.1.2.2.1, (y.1.2.2.2.1, (y.1.2.2.2.2.1, (y.1.2.2.2.2.2.1, (r0.1.2.1.2.2.2.2.2.2.1, (r0.1.2.1.2.2.2.2.2.2.2.1, (y.1.2.2.2.2.2.2.2.2.1, (r1.1.2.1.2.1, r2.1.2)))))))))), ())), ())
noncomputable def E79 (c164 : F164) (c100 : F100) (c165 : F165) := mkE [g164 c164, g100 c100, g165 c165]
theorem s79 (c164 : F164) (c100 : F100) (c165 : F165)  (y) : tevM (E79 c164 c100 c165 ) Tryz.f79 i79 o79 y = m79 c164 c100 c165  y := by kernel_rfl
noncomputable def r79 : F79 := m79 r164 r100 r165 
theorem k79 : CK Tryz.prog (g79 r79) := by
  exact fnM_ok (E := E79 r164 r100 r165 ) rfl (fnsL_ok ⟨k164, k100, k165, trivial⟩) mixed (by kernel_rfl) (by kernel_rfl) (AllLoops.of_list (l := []) (by kernel_rfl) trivial) (s79 r164 r100 r165 )
@[reducible] def i80 : List Ty := [.a q14, .v (.int .i64)]
@[reducible] def o80 : List Ty := [.v (.int .i64), .a q14]
abbrev R80 := Option (PTup o80 × BTup i80)
abbrev F80 := PTup i80 → R80
abbrev g80 (c : F80) : Nat × Tev.Fn := (80, ⟨i80, o80, c, .inp⟩)
noncomputable def m80 (c36 : F36) (c165 : F165)  (y : PTup i80) : Option (PTup o80 × BTup i80) :=
  (c165 ((y.1.2.2.2.2.2.2.2.1, (y.1.2.2.2.2.2.2.2.2.1, ())), y.2)).bind fun r0 =>
  (c36 (y.1.2.2.2.2.2.2.2.2.2.1, (r0.1.1, ()))).bind fun r1 =>
  some ((r1.1.1, ((y.1.1, (y.1.2.1, (y.1.2.2.1, (y.1.2.2.2.1, (y.1.2.2.2.2.1, (y.1.2.2.2.2.2.1, (y.1.2.2.2.2.2.2.1, (y.1.2.2.2.2.2.2.2.1, (r0.1.2.1.2.1, r1.1.2))))))))), ())), ())
noncomputable def E80 (c36 : F36) (c165 : F165) := mkE [g36 c36, g165 c165]
theorem s80 (c36 : F36) (c165 : F165)  (y) : tevM (E80 c36 c165 ) Tryz.f80 i80 o80 y = m80 c36 c165  y := by kernel_rfl
noncomputable def r80 : F80 := m80 r36 r165 
theorem k80 : CK Tryz.prog (g80 r80) := by
  exact fnM_ok (E := E80 r36 r165 ) rfl (fnsL_ok ⟨k36, k165, trivial⟩) mixed (by kernel_rfl) (by kernel_rfl) (AllLoops.of_list (l := []) (by kernel_rfl) trivial) (s80 r36 r165 )
@[reducible] def i20 : List Ty := [.a q15, .v (.int .i64)]
@[reducible] def o20 : List Ty := [.v (.int .i64), .a q15]
abbrev R20 := Option (PTup o20 × BTup i20)
abbrev F20 := PTup i20 → R20
abbrev g20 (c : F20) : Nat × Tev.Fn := (20, ⟨i20, o20, c, .inp⟩)
noncomputable def m20 (c77 : F77) (c36 : F36) (c78 : F78) (c79 : F79) (c80 : F80)  (y : PTup i20) : Option (PTup o20 × BTup i20) :=
  let a0 := y.1; let a1 := a0.2; let a2 := a1.2; let a3 := a2.2; let a4 := a3.2; let a5 := a4.2; let a6 := a5.2; let a7 := a6.2; let a8 := a7.2; let a9 := a8.2; let a10 := a9.2; let a11 := a10.2; let a12 := a11.2; let a13 := a12.2; let a14 := a13.2; let a15 := a14.2; let a16 := a15.2; let a17 := a16.2; let a18 := a17.2; let a19 := a18.2; let a20 := a19.2; let a21 := a20.2; let a22 := a21.2; let a23 := a22.2; let a24 := a23.2; let a25 := a24.2; let a26 := a25.2; let a27 := a26.2; let a28 := a27.2; let a29 := a28.2; let a30 := a29.2; let a31 := a30.2; let a32 := a31.2.2; let a33 := a32.2.2.2; (c77 ((a0.1, ()), y.2)).bind fun r0 =>
  (c36 (a1.1, (r0.1.1, ()))).bind fun r1 =>
  (c78 ((a2.1, (a3.1, ())), (r1.1.1, ()))).bind fun r2 =>
  (c36 (a20.1, (r2.1.1, ()))).bind fun r3 =>
  (c79 ((a21.1, (a22.1, (a23.1, (a24.1, (a25.1, (a26.1, (a27.1, (a28.1, (a29.1, (a30.1, (a31.1, ()))))))))))), (r3.1.1, ()))).bind fun r4 =>
  (c80 (a31.2, (r4.1.1, ()))).bind fun r5 =>
  some ((r5.1.1, ((r0.1.2.1.1, (r1.1.2.1, (r2.1.2.1.1, (a3.1, (a4.1, (a5.1, (a6.1, (a7.1, (a8.1, (a9.1, (a10.1, (a11.1, (a12.1, (a13.1, (a14.1, (a15.1, (a16.1, (a17.1, (a18.1, (a19.1, (r3.1.2.1, (a21.1, (a22.1, (a23.1, (a24.1, (a25.1, (a26.1, (r4.1.2.1.2.2.2.2.2.2.1, (r4.1.2.1.2.2.2.2.2.2.2.1, (a29.1, (r4.1.2.1.2.2.2.2.2.2.2.2.2.1, (r4.1.2.1.2.2.2.2.2.2.2.2.2.2.1, (a31.2.1, (a32.1, (a32.2.1, (a32.2.2.1, (a33.1, (a33.2.1, (a33.2.2.1, (a33.2.2.2.1, r5.1.2.1.2.2.2.2.2.2.2.2)))))))))))))))))))))))))))))))))))))))), ())), ())
noncomputable def E20 (c77 : F77) (c36 : F36) (c78 : F78) (c79 : F79) (c80 : F80) := mkE [g77 c77, g36 c36, g78 c78, g79 c79, g80 c80]
theorem s20 (c77 : F77) (c36 : F36) (c78 : F78) (c79 : F79) (c80 : F80)  (y) : tevM (E20 c77 c36 c78 c79 c80 ) Tryz.f20 i20 o20 y = m20 c77 c36 c78 c79 c80  y := by kernel_rfl
noncomputable def r20 : F20 := m20 r77 r36 r78 r79 r80 
theorem k20 : CK Tryz.prog (g20 r20) := by
  exact fnM_ok (E := E20 r77 r36 r78 r79 r80 ) rfl (fnsL_ok ⟨k77, k36, k78, k79, k80, trivial⟩) mixed (by kernel_rfl) (by kernel_rfl) (AllLoops.of_list (l := []) (by kernel_rfl) trivial) (s20 r77 r36 r78 r79 r80 )
@[reducible] def i37 : List Ty := [.v (.sl false .i), .v (.int .i64)]
@[reducible] def o37 : List Ty := [.v (.int .i64)]
abbrev R37 := Option (PTup o37 × BTup i37)
abbrev F37 := PTup i37 → R37
abbrev g37 (c : F37) : Nat × Tev.Fn := (37, ⟨i37, o37, c, .nor⟩)
@[reducible] def lc37_0 : List Ty := [.v (.sl false .i)]
@[reducible] def lb37_0 : List Ty := []
@[reducible] def lv37_0 : List Ty := [.v (.int .i64), .v (.int .i64)]
@[reducible] def lr37_0 : List Ty := [.v (.int .i64)]
abbrev R37_0 := Option (Sum (PTup lv37_0) (PTup lr37_0) × BTup lb37_0)
abbrev B37_0 := PTup lb37_0 → PTup lv37_0 → R37_0
abbrev A37_0 := PTup lc37_0 → B37_0
noncomputable def w37_0   (again : B37_0) (x : PTup lc37_0) (y : PTup lb37_0) (z : PTup lv37_0) : R37_0 :=
  bif (ltI z.2.1 (lenI x.1)) then (bif (leI (0 : Int) z.2.1) then (bif (ltI z.2.1 (lenI x.1)) then (bif (neI (rdE .i x.1 z.2.1) z.1) then (some ((Sum.inr ((-(1 : Int)), ())), ()))
     else again () ((wI (z.1 + (1 : Int))), ((wI (z.2.1 + (1 : Int))), ())))
    else none)
   else none)
  else some ((Sum.inl z), ())
noncomputable def e37_0 (l : A37_0) : LoopE := ⟨[0], lc37_0, [], lb37_0, [1, 5], lv37_0, [4], lr37_0, 0, [], l⟩
noncomputable def m37  (l0 : A37_0) (y : PTup i37) : Option (PTup o37 × BTup i37) :=
  (l0 (y.1, ()) () (y.2.1, ((0 : Int), ()))).bind fun r0 =>
  sumElim r0.1 (fun r1 => some ((r1.1, ()), ()))
  (fun r1 => some (r1, ()))
noncomputable def E37  (l0 : A37_0) : CEnv := ⟨⟨Tryz.prog, fnsL []⟩, loopsL [(2, e37_0 l0)]⟩
theorem t37_0  (l0 : A37_0) (again) (x y z) : loopRound (E37  l0) (loopAt (bodyOf Tryz.f37) 0) (e37_0 l0) Tryz.f37.ntmps again x y z = w37_0   again x y z := by kernel_rfl
noncomputable def n37_0   : Nat → A37_0
  | 0, _, _, _ => none
  | n + 1, x, y, z => w37_0   (fun y z => n37_0   n x y z) x y z
theorem s37  (l0 : A37_0) (y) : tevF (E37  l0) Tryz.f37 i37 o37 y = m37  l0 y := by kernel_rfl
noncomputable def L37_0 : A37_0 := n37_0   fuel
noncomputable def r37 : F37 := m37  L37_0
theorem k37 : CK Tryz.prog (g37 r37) := by
  have hE : ∀ g f, (E37  L37_0).env.fns g = some f → CallOk Tryz.prog g f := fnsL_ok trivial
  have h0 : LoopOk Tryz.prog Tryz.f37.ntmps (loopAt (bodyOf Tryz.f37) 0) (e37_0 L37_0) := lp_ok (E := E37  L37_0) rfl hE mixed (AllLoops.of_list (l := []) (by kernel_rfl) trivial) (n37_0  ) (fun _ _ _ => rfl) (fun n x y z => t37_0  L37_0 _ x y z) rfl
  exact fn_ok (E := E37  L37_0) rfl hE mixed (by kernel_rfl) (by kernel_rfl) (AllLoops.of_list (l := [(loopAt (bodyOf Tryz.f37) 0)]) (by kernel_rfl) (.one (by kernel_rfl) h0 trivial)) (s37  L37_0)
@[reducible] def i38 : List Ty := [.a q6, .v (.int .i64)]
@[reducible] def o38 : List Ty := [.a q15, .v (.bool)]
abbrev R38 := Option (PTup o38 × BTup i38)
abbrev F38 := PTup i38 → R38
abbrev g38 (c : F38) : Nat × Tev.Fn := (38, ⟨i38, o38, c, .nor⟩)
noncomputable def m38 (c29 : F29) (c59 : F59) (c111 : F111) (c112 : F112) (c58 : F58)  (y : PTup i38) : Option (PTup o38 × BTup i38) :=
  (c59 (y.1, ())).bind fun r0 =>
  bif (!r0.1.1) then (some ((([], ([], ([], ((0 : Int), ((0 : Int), ((0 : Int), ((0 : Int), ((0 : Int), (false, (false, (false, (false, (false, ((0 : Int), ((0 : Int), (false, ((0 : Int), (false, ((0 : Int), ((0 : Int), ([], ((0 : Int), ((0 : Int), ((0 : Int), ((0 : Int), ((0 : Int), (false, ([], ([], ((0 : Int), ([], ([], ((0 : Int), ((0 : Int), ((0 : Int), ((0 : Int), ((0 : Int), (false, (false, ((0 : Int), ([], ([], ())))))))))))))))))))))))))))))))))))))))))), (false, ())), ()))
  else (c58 (y.1, ())).bind fun r1 => let d0 := r1.1; let d1 := d0.1; let d2 := d1.2; let d3 := d2.2; let d4 := d3.2; let d5 := d4.2; let d6 := d5.2; let d7 := d6.2; let d8 := d7.2; let d9 := d8.2; let d10 := d9.2; let d11 := d10.2; let d12 := d11.2; let d13 := d12.2; let d14 := d13.2; let d15 := d14.2; let d16 := d15.2; let d17 := d16.2; let d18 := d17.2; let d19 := d18.2; let d20 := d19.2; let d21 := d20.2; let d22 := d21.2; let d23 := d22.2; let d24 := d23.2; let d25 := d24.2; let d26 := d25.2; let d27 := d26.2; let d28 := d27.2; let d29 := d28.2; let d30 := d29.2.2; bif (eqI y.2.1 (0 : Int)) then ((c29 (y.1, ())).bind fun r2 =>
   some (r2.1, ()))
  else bif (eqI y.2.1 (1 : Int)) then ((c111 ((d22.1, (d23.1, (d24.1, (d25.1, (d26.1, (d27.1, (d28.1, (d29.1, (d29.2.1, (d30.1, (d30.2.1, ()))))))))))), (y.1.2.2.2.2.2.2.2.2.2.2.2.2.2.2.1, ()))).bind fun r2 =>
   some (((d1.1, (d2.1, (d3.1, (d4.1, (d5.1, (d6.1, (d7.1, (d8.1, (d9.1, (d10.1, (d11.1, (d12.1, (d13.1, (d14.1, (d15.1, (d16.1, (d17.1, (d18.1, (d19.1, (d20.1, (d21.1, (r2.1.1.1, (r2.1.1.2.1, (r2.1.1.2.2.1, (r2.1.1.2.2.2.1, (r2.1.1.2.2.2.2.1, (r2.1.1.2.2.2.2.2.1, (r2.1.1.2.2.2.2.2.2.1, (r2.1.1.2.2.2.2.2.2.2.1, (r2.1.1.2.2.2.2.2.2.2.2.1, (r2.1.1.2.2.2.2.2.2.2.2.2.1, (r2.1.1.2.2.2.2.2.2.2.2.2.2.1, d30.2.2)))))))))))))))))))))))))))))))), r2.1.2), ()))
  else bif (eqI y.2.1 (2 : Int)) then ((c112 (d30.2.2, (y.1.2.2.2.2.2.2.2.2.2.2.2.2.2.2.1, ()))).bind fun r2 =>
   some (((d1.1, (d2.1, (d3.1, (d4.1, (d5.1, (d6.1, (d7.1, (d8.1, (d9.1, (d10.1, (d11.1, (d12.1, (d13.1, (d14.1, (d15.1, (d16.1, (d17.1, (d18.1, (d19.1, (d20.1, (d21.1, (d22.1, (d23.1, (d24.1, (d25.1, (d26.1, (d27.1, (d28.1, (d29.1, (d29.2.1, (d30.1, (d30.2.1, r2.1.1)))))))))))))))))))))))))))))))), r2.1.2), ()))
  else some ((d1, (false, ())), ())
noncomputable def E38 (c29 : F29) (c59 : F59) (c111 : F111) (c112 : F112) (c58 : F58) := mkE [g29 c29, g59 c59, g111 c111, g112 c112, g58 c58]
theorem s38 (c29 : F29) (c59 : F59) (c111 : F111) (c112 : F112) (c58 : F58)  (y) : tevF (E38 c29 c59 c111 c112 c58 ) Tryz.f38 i38 o38 y = m38 c29 c59 c111 c112 c58  y := by kernel_rfl
noncomputable def r38 : F38 := m38 r29 r59 r111 r112 r58 
theorem k38 : CK Tryz.prog (g38 r38) := fn0 (s38 r29 r59 r111 r112 r58) (fnsL_ok ⟨k29, k59, k111, k112, k58, trivial⟩) rfl mixed (by kernel_rfl) (by kernel_rfl) (by kernel_rfl)
@[reducible] def i33 : List Ty := [.a q6]
@[reducible] def o33 : List Ty := [.v (.sl true .i)]
abbrev R33 := Option (PTup o33 × BTup i33)
abbrev F33 := PTup i33 → R33
abbrev g33 (c : F33) : Nat × Tev.Fn := (33, ⟨i33, o33, c, .nor⟩)
@[reducible] def lc33_0 : List Ty := []
@[reducible] def lb33_0 : List Ty := [.p q6]
@[reducible] def lv33_0 : List Ty := [.v (.sl true .i), .v (.int .i64)]
@[reducible] def lr33_0 : List Ty := []
abbrev R33_0 := Option (Sum (PTup lv33_0) (PTup lr33_0) × BTup lb33_0)
abbrev B33_0 := PTup lb33_0 → PTup lv33_0 → R33_0
abbrev A33_0 := PTup lc33_0 → B33_0
noncomputable def w33_0 (c38 : F38)  (again : B33_0) (x : PTup lc33_0) (y : PTup lb33_0) (z : PTup lv33_0) : R33_0 :=
  bif (ltI z.2.1 (3 : Int)) then ((c38 (y.1, z.2)).bind fun r0 =>
   bif r0.1.2.1 then (bif (leN ((List.length z.1) + (List.length (z.2.1 :: []))) (E.most .i)) then (again (y.1, ()) ((z.1 ++ (z.2.1 :: [])), ((wI (z.2.1 + (1 : Int))), ())))
    else none)
   else again (y.1, ()) (z.1, ((wI (z.2.1 + (1 : Int))), ())))
  else some ((Sum.inl z), (y.1, ()))
noncomputable def e33_0 (l : A33_0) : LoopE := ⟨[], lc33_0, [1], lb33_0, [3, 4], lv33_0, [], lr33_0, 0, [], l⟩
noncomputable def m33 (c38 : F38) (l0 : A33_0) (y : PTup i33) : Option (PTup o33 × BTup i33) :=
  (l0 () (y.1, ()) ([], ((0 : Int), ()))).bind fun r0 =>
  sumElim r0.1 (fun r1 => some ((r1.1, ()), ()))
  (fun r1 => some (([], ()), ()))
noncomputable def E33 (c38 : F38) (l0 : A33_0) : CEnv := ⟨⟨Tryz.prog, fnsL [g38 c38]⟩, loopsL [(3, e33_0 l0)]⟩
theorem t33_0 (c38 : F38) (l0 : A33_0) (again) (x y z) : loopRound (E33 c38 l0) (loopAt (bodyOf Tryz.f33) 0) (e33_0 l0) Tryz.f33.ntmps again x y z = w33_0 c38  again x y z := by kernel_rfl
noncomputable def n33_0 (c38 : F38)  : Nat → A33_0
  | 0, _, _, _ => none
  | n + 1, x, y, z => w33_0 c38  (fun y z => n33_0 c38  n x y z) x y z
theorem s33 (c38 : F38) (l0 : A33_0) (y) : tevF (E33 c38 l0) Tryz.f33 i33 o33 y = m33 c38 l0 y := by kernel_rfl
noncomputable def L33_0 : A33_0 := n33_0 r38  fuel
noncomputable def r33 : F33 := m33 r38 L33_0
theorem k33 : CK Tryz.prog (g33 r33) := by
  have hE : ∀ g f, (E33 r38 L33_0).env.fns g = some f → CallOk Tryz.prog g f := fnsL_ok ⟨k38, trivial⟩
  have h0 : LoopOk Tryz.prog Tryz.f33.ntmps (loopAt (bodyOf Tryz.f33) 0) (e33_0 L33_0) := lp_ok (E := E33 r38 L33_0) rfl hE mixed (AllLoops.of_list (l := []) (by kernel_rfl) trivial) (n33_0 r38 ) (fun _ _ _ => rfl) (fun n x y z => t33_0 r38 L33_0 _ x y z) rfl
  exact fn_ok (E := E33 r38 L33_0) rfl hE mixed (by kernel_rfl) (by kernel_rfl) (AllLoops.of_list (l := [(loopAt (bodyOf Tryz.f33) 0)]) (by kernel_rfl) (.one (by kernel_rfl) h0 trivial)) (s33 r38 L33_0)
@[reducible] def i113 : List Ty := [.p [.sl false .n, .sl false .i, .sl true .i, .int .i64, .int .i64, .int .i64, .int .i64, .int .i64, .bool, .bool, .bool, .bool, .bool, .int .i64, .int .i64, .bool, .int .i64, .bool, .int .i64, .int .i64, .sl true .i, .int .i64, .int .i64, .int .i64, .int .i64, .int .i64, .bool, .sl true .i, .sl true .i, .int .i64, .sl true .t, .sl true .n, .int .i64, .int .i64, .int .i64, .int .i64, .int .i64, .bool, .bool, .int .i64, .sl true .t, .sl true .i], .v (.int .i64)]
@[reducible] def o113 : List Ty := [.v (.bool)]
abbrev R113 := Option (PTup o113 × BTup i113)
abbrev F113 := PTup i113 → R113
abbrev g113 (c : F113) : Nat × Tev.Fn := (113, ⟨i113, o113, c, .nor⟩)
noncomputable def m113 (c217 : F217) (c218 : F218) (c107 : F107)  (y : PTup i113) : Option (PTup o113 × BTup i113) :=
  let a0 := y.1; let a1 := a0.2; let a2 := a1.2; let a3 := a2.2; let a4 := a3.2; let a5 := a4.2; let a6 := a5.2; let a7 := a6.2; let a8 := a7.2; let a9 := a8.2; let a10 := a9.2; let a11 := a10.2; let a12 := a11.2; let a13 := a12.2; let a14 := a13.2; let a15 := a14.2; let a16 := a15.2; let a17 := a16.2; let a18 := a17.2; let a19 := a18.2; let a20 := a19.2; let a21 := a20.2; let a22 := a21.2; let a23 := a22.2; let a24 := a23.2; let a25 := a24.2; let a26 := a25.2; let a27 := a26.2; let a28 := a27.2; let a29 := a28.2; let a30 := a29.2.2; bif (eqI y.2.1 (0 : Int)) then ((c107 (a0, ())).bind fun r0 => let b0 := r0.2; let b1 := b0.1; let b2 := b1.2; let b3 := b2.2; let b4 := b3.2; let b5 := b4.2; let b6 := b5.2; let b7 := b6.2; let b8 := b7.2; let b9 := b8.2; let b10 := b9.2; let b11 := b10.2; let b12 := b11.2; let b13 := b12.2; let b14 := b13.2; let b15 := b14.2; let b16 := b15.2; let b17 := b16.2; let b18 := b17.2; let b19 := b18.2; let b20 := b19.2; let b21 := b20.2; let b22 := b21.2; let b23 := b22.2; let b24 := b23.2; let b25 := b24.2; let b26 := b25.2; let b27 := b26.2; let b28 := b27.2; let b29 := b28.2; let b30 := b29.2; let b31 := b30.2; let b32 := b31.2.2; let b33 := b32.2.2; let b34 := b33.2.2.2; some (r0.1, ((a0.1, (a1.1, (b3.1, (b4.1, (b5.1, (b6.1, (b7.1, (b8.1, (b9.1, (b10.1, (b11.1, (b12.1, (b13.1, (b14.1, (b15.1, (b16.1, (b17.1, (b18.1, (b19.1, (b20.1, (b21.1, (b22.1, (b23.1, (b24.1, (b25.1, (b26.1, (b27.1, (a27.1, (a28.1, (b30.1, (b31.1, (a30.1, (b32.1, (b32.2.1, (b33.1, (b33.2.1, (b33.2.2.1, (b34.1, (b34.2.1, (b34.2.2.1, (b34.2.2.2.1, a30.2.2.2.2.2.2.2.2.2.2))))))))))))))))))))))))))))))))))))))))), ())))
  else bif (eqI y.2.1 (1 : Int)) then ((c217 ((a21.1, (a22.1, (a23.1, (a24.1, (a25.1, (a26.1, (a27.1, (a28.1, (a29.1, (a29.2.1, (a30.1, ()))))))))))), (a14.1, ()))).bind fun r0 =>
   some (r0.1, ((a0.1, (a1.1, (a2.1, (a3.1, (a4.1, (a5.1, (a6.1, (a7.1, (a8.1, (a9.1, (a10.1, (a11.1, (a12.1, (a13.1, (a14.1, (a15.1, (a16.1, (a17.1, (a18.1, (a19.1, (a20.1, (r0.2.1.1, (r0.2.1.2.1, (r0.2.1.2.2.1, (r0.2.1.2.2.2.1, (r0.2.1.2.2.2.2.1, (r0.2.1.2.2.2.2.2.1, (r0.2.1.2.2.2.2.2.2.1, (r0.2.1.2.2.2.2.2.2.2.1, (r0.2.1.2.2.2.2.2.2.2.2.1, (r0.2.1.2.2.2.2.2.2.2.2.2.1, (r0.2.1.2.2.2.2.2.2.2.2.2.2.1, a30.2)))))))))))))))))))))))))))))))), ())))
  else bif (eqI y.2.1 (2 : Int)) then ((c218 (a30.2, (a14.1, ()))).bind fun r0 =>
   some (r0.1, ((a0.1, (a1.1, (a2.1, (a3.1, (a4.1, (a5.1, (a6.1, (a7.1, (a8.1, (a9.1, (a10.1, (a11.1, (a12.1, (a13.1, (a14.1, (a15.1, (a16.1, (a17.1, (a18.1, (a19.1, (a20.1, (a21.1, (a22.1, (a23.1, (a24.1, (a25.1, (a26.1, (a27.1, (a28.1, (a29.1, (a29.2.1, (a30.1, r0.2.1)))))))))))))))))))))))))))))))), ())))
  else some ((false, ()), (a0, ()))
noncomputable def E113 (c217 : F217) (c218 : F218) (c107 : F107) := mkE [g217 c217, g218 c218, g107 c107]
theorem s113 (c217 : F217) (c218 : F218) (c107 : F107)  (y) : tevF (E113 c217 c218 c107 ) Tryz.f113 i113 o113 y = m113 c217 c218 c107  y := by kernel_rfl
noncomputable def r113 : F113 := m113 r217 r218 r107 
theorem k113 : CK Tryz.prog (g113 r113) := fn0 (s113 r217 r218 r107) (fnsL_ok ⟨k217, k218, k107, trivial⟩) rfl mixed (by kernel_rfl) (by kernel_rfl) (by kernel_rfl)
@[reducible] def i39 : List Ty := [.a q6, .v (.int .i64)]
@[reducible] def o39 : List Ty := [.a q15, .v (.bool)]
abbrev R39 := Option (PTup o39 × BTup i39)
abbrev F39 := PTup i39 → R39
abbrev g39 (c : F39) : Nat × Tev.Fn := (39, ⟨i39, o39, c, .nor⟩)
noncomputable def m39 (c113 : F113) (c69 : F69) (c68 : F68)  (y : PTup i39) : Option (PTup o39 × BTup i39) :=
  (c69 (y.1, ())).bind fun r0 =>
  bif (!r0.1.1) then (some ((([], ([], ([], ((0 : Int), ((0 : Int), ((0 : Int), ((0 : Int), ((0 : Int), (false, (false, (false, (false, (false, ((0 : Int), ((0 : Int), (false, ((0 : Int), (false, ((0 : Int), ((0 : Int), ([], ((0 : Int), ((0 : Int), ((0 : Int), ((0 : Int), ((0 : Int), (false, ([], ([], ((0 : Int), ([], ([], ((0 : Int), ((0 : Int), ((0 : Int), ((0 : Int), ((0 : Int), (false, (false, ((0 : Int), ([], ([], ())))))))))))))))))))))))))))))))))))))))))), (false, ())), ()))
  else (c68 (y.1, ())).bind fun r1 =>
  (c113 (r1.1.1, y.2)).bind fun r2 =>
  some (((r1.1.1.1, (r1.1.1.2.1, r2.2.1.2.2)), r2.1), ())
noncomputable def E39 (c113 : F113) (c69 : F69) (c68 : F68) := mkE [g113 c113, g69 c69, g68 c68]
theorem s39 (c113 : F113) (c69 : F69) (c68 : F68)  (y) : tevF (E39 c113 c69 c68 ) Tryz.f39 i39 o39 y = m39 c113 c69 c68  y := by kernel_rfl
noncomputable def r39 : F39 := m39 r113 r69 r68 
theorem k39 : CK Tryz.prog (g39 r39) := fn0 (s39 r113 r69 r68) (fnsL_ok ⟨k113, k69, k68, trivial⟩) rfl mixed (by kernel_rfl) (by kernel_rfl) (by kernel_rfl)
@[reducible] def i34 : List Ty := [.a q6]
@[reducible] def o34 : List Ty := [.v (.sl true .i)]
abbrev R34 := Option (PTup o34 × BTup i34)
abbrev F34 := PTup i34 → R34
abbrev g34 (c : F34) : Nat × Tev.Fn := (34, ⟨i34, o34, c, .nor⟩)
@[reducible] def lc34_0 : List Ty := []
@[reducible] def lb34_0 : List Ty := [.p q6]
@[reducible] def lv34_0 : List Ty := [.v (.sl true .i), .v (.int .i64)]
@[reducible] def lr34_0 : List Ty := []
abbrev R34_0 := Option (Sum (PTup lv34_0) (PTup lr34_0) × BTup lb34_0)
abbrev B34_0 := PTup lb34_0 → PTup lv34_0 → R34_0
abbrev A34_0 := PTup lc34_0 → B34_0
noncomputable def w34_0 (c39 : F39)  (again : B34_0) (x : PTup lc34_0) (y : PTup lb34_0) (z : PTup lv34_0) : R34_0 :=
  bif (leI z.2.1 (2 : Int)) then ((c39 (y.1, z.2)).bind fun r0 =>
   bif r0.1.2.1 then (bif (leN ((List.length z.1) + (List.length (z.2.1 :: []))) (E.most .i)) then (again (y.1, ()) ((z.1 ++ (z.2.1 :: [])), ((wI (z.2.1 + (1 : Int))), ())))
    else none)
   else again (y.1, ()) (z.1, ((wI (z.2.1 + (1 : Int))), ())))
  else some ((Sum.inl z), (y.1, ()))
noncomputable def e34_0 (l : A34_0) : LoopE := ⟨[], lc34_0, [1], lb34_0, [3, 4], lv34_0, [], lr34_0, 0, [], l⟩
noncomputable def m34 (c39 : F39) (l0 : A34_0) (y : PTup i34) : Option (PTup o34 × BTup i34) :=
  (l0 () (y.1, ()) ([], ((0 : Int), ()))).bind fun r0 =>
  sumElim r0.1 (fun r1 => some ((r1.1, ()), ()))
  (fun r1 => some (([], ()), ()))
noncomputable def E34 (c39 : F39) (l0 : A34_0) : CEnv := ⟨⟨Tryz.prog, fnsL [g39 c39]⟩, loopsL [(3, e34_0 l0)]⟩
theorem t34_0 (c39 : F39) (l0 : A34_0) (again) (x y z) : loopRound (E34 c39 l0) (loopAt (bodyOf Tryz.f34) 0) (e34_0 l0) Tryz.f34.ntmps again x y z = w34_0 c39  again x y z := by kernel_rfl
noncomputable def n34_0 (c39 : F39)  : Nat → A34_0
  | 0, _, _, _ => none
  | n + 1, x, y, z => w34_0 c39  (fun y z => n34_0 c39  n x y z) x y z
theorem s34 (c39 : F39) (l0 : A34_0) (y) : tevF (E34 c39 l0) Tryz.f34 i34 o34 y = m34 c39 l0 y := by kernel_rfl
noncomputable def L34_0 : A34_0 := n34_0 r39  fuel
noncomputable def r34 : F34 := m34 r39 L34_0
theorem k34 : CK Tryz.prog (g34 r34) := by
  have hE : ∀ g f, (E34 r39 L34_0).env.fns g = some f → CallOk Tryz.prog g f := fnsL_ok ⟨k39, trivial⟩
  have h0 : LoopOk Tryz.prog Tryz.f34.ntmps (loopAt (bodyOf Tryz.f34) 0) (e34_0 L34_0) := lp_ok (E := E34 r39 L34_0) rfl hE mixed (AllLoops.of_list (l := []) (by kernel_rfl) trivial) (n34_0 r39 ) (fun _ _ _ => rfl) (fun n x y z => t34_0 r39 L34_0 _ x y z) rfl
  exact fn_ok (E := E34 r39 L34_0) rfl hE mixed (by kernel_rfl) (by kernel_rfl) (AllLoops.of_list (l := [(loopAt (bodyOf Tryz.f34) 0)]) (by kernel_rfl) (.one (by kernel_rfl) h0 trivial)) (s34 r39 L34_0)
@[reducible] def i7 : List Ty := [.a q6]
@[reducible] def o7 : List Ty := [.v (.bool)]
abbrev R7 := Option (PTup o7 × BTup i7)
abbrev F7 := PTup i7 → R7
abbrev g7 (c : F7) : Nat × Tev.Fn := (7, ⟨i7, o7, c, .nor⟩)
noncomputable def m7 (c34 : F34) (c35 : F35) (c19 : F19) (c37 : F37) (c36 : F36) (c20 : F20) (c15 : F15) (c17 : F17) (c33 : F33)  (y : PTup i7) : Option (PTup o7 × BTup i7) :=
  (c15 (y.1, ((1048576 : Int), ()))).bind fun r0 =>
  bif (ltI r0.1.1 (0 : Int)) then (some ((true, ()), ()))
  else (c17 (y.1, ())).bind fun r1 =>
  (c33 (r1.1.1, ())).bind fun r2 =>
  (c17 (y.1, ())).bind fun r3 =>
  (c34 (r3.1.1, ())).bind fun r4 =>
  (c35 (r4.1.1, r2.1)).bind fun r5 =>
  bif (!r5.1.1) then (some ((false, ()), ()))
  else (c17 (y.1, ())).bind fun r6 =>
  (c19 (r3.1.1, (r6.1.1, ()))).bind fun r7 =>
  bif (!r7.1.1) then (some ((false, ()), ()))
  else (c20 (r3.1.1, ((1 : Int), ()))).bind fun r8 =>
  bif (ltI r8.1.1 (0 : Int)) then (some ((false, ()), ()))
  else (c35 (r4.1.1, r2.1)).bind fun r9 =>
  bif (!r9.1.1) then (some ((false, ()), ()))
  else (c36 (r4.1.1, ((1 : Int), ()))).bind fun r10 =>
  (c37 (r10.1.2.1, ((1 : Int), ()))).bind fun r11 =>
  bif (ltI r11.1.1 (0 : Int)) then (some ((false, ()), ()))
  else bif (neI r11.1.1 r10.1.1) then (some ((false, ()), ()))
  else (c17 (y.1, ())).bind fun r12 =>
  (c34 (r12.1.1, ())).bind fun r13 =>
  (c35 (r13.1.1, r2.1)).bind fun r14 =>
  bif (!r14.1.1) then (some ((false, ()), ()))
  else (c37 (r10.1.2.1, ((1 : Int), ()))).bind fun r15 =>
  bif (ltI r15.1.1 (0 : Int)) then (some ((false, ()), ()))
  else bif (neI r15.1.1 r10.1.1) then (some ((false, ()), ()))
  else some ((true, ()), ())
noncomputable def E7 (c34 : F34) (c35 : F35) (c19 : F19) (c37 : F37) (c36 : F36) (c20 : F20) (c15 : F15) (c17 : F17) (c33 : F33) := mkE [g34 c34, g35 c35, g19 c19, g37 c37, g36 c36, g20 c20, g15 c15, g17 c17, g33 c33]
theorem s7 (c34 : F34) (c35 : F35) (c19 : F19) (c37 : F37) (c36 : F36) (c20 : F20) (c15 : F15) (c17 : F17) (c33 : F33)  (y) : tevF (E7 c34 c35 c19 c37 c36 c20 c15 c17 c33 ) Tryz.f7 i7 o7 y = m7 c34 c35 c19 c37 c36 c20 c15 c17 c33  y := by kernel_rfl
noncomputable def r7 : F7 := m7 r34 r35 r19 r37 r36 r20 r15 r17 r33 
theorem k7 : CK Tryz.prog (g7 r7) := fn0 (s7 r34 r35 r19 r37 r36 r20 r15 r17 r33) (fnsL_ok ⟨k34, k35, k19, k37, k36, k20, k15, k17, k33, trivial⟩) rfl mixed (by kernel_rfl) (by kernel_rfl) (by kernel_rfl)
end Go.Proofs.YtanoofbkhddokaaGreat.Plain
