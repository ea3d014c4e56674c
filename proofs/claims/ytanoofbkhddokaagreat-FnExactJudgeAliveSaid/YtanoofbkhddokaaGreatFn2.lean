/- Plain functions that the program's functions answer as; their contracts. Printed by a program of the proofs' writer. No condition. -/
import Derived.Test.YtanoofbkhddokaaGreatUf
import Derived.KernelRfl
import Derived.Test.YtanoofbkhddokaaGreatFn1
set_option linter.unusedVariables false
set_option linter.unusedSimpArgs false
set_option maxRecDepth 100000
namespace Go.Proofs.YtanoofbkhddokaaGreat.Plain
open Go Go.Tev
@[reducible] def i213 : List Ty := [.a q2, .v (.int .i64), .v (.int .i64)]
@[reducible] def o213 : List Ty := [.a q10]
abbrev R213 := Option (PTup o213 × BTup i213)
abbrev F213 := PTup i213 → R213
abbrev g213 (c : F213) : Nat × Tev.Fn := (213, ⟨i213, o213, c, .nor⟩)
noncomputable def m213 (c262 : F262) (c168 : F168) (c171 : F171)  (y : PTup i213) : Option (PTup o213 × BTup i213) :=
  (c171 (y.1, ())).bind fun r0 =>
  (c168 (y.1, ())).bind fun r1 =>
  bif (!r1.1.1) then (some ((r0.1.1, ()), ()))
  else (c262 y.2.2).bind fun r2 =>
  bif (eqI y.2.1 (0 : Int)) then (some (((r0.1.1.1, (r2.1.1, r0.1.1.2.2)), ()), ()))
  else bif (eqI y.2.1 (1 : Int)) then (some (((r0.1.1.1, (r0.1.1.2.1, (r2.1.1, r0.1.1.2.2.2))), ()), ()))
  else bif (eqI y.2.1 (3 : Int)) then (some (((r0.1.1.1, (r0.1.1.2.1, (r0.1.1.2.2.1, ((Int.tmod r2.1.1 (16 : Int)), r0.1.1.2.2.2.2)))), ()), ()))
  else bif (eqI y.2.1 (4 : Int)) then (bif (leI (0 : Int) y.1.2.2.2.1) then (bif (ltI y.1.2.2.2.1 (lenI r0.1.1.2.2.2.2.2.2.1)) then (some (((r0.1.1.1, (r0.1.1.2.1, (r0.1.1.2.2.1, ((Int.tmod (wI (y.1.2.2.2.1 + (1 : Int))) (16 : Int)), (r0.1.1.2.2.2.2.1, (r0.1.1.2.2.2.2.2.1, ((List.set r0.1.1.2.2.2.2.2.2.1 (Int.toNat y.1.2.2.2.1) (Int.tmod r2.1.1 (64 : Int))), r0.1.1.2.2.2.2.2.2.2))))))), ()), ()))
    else none)
   else none)
  else bif (eqI y.2.1 (5 : Int)) then (some (((r0.1.1.1, (r0.1.1.2.1, (r0.1.1.2.2.1, (r0.1.1.2.2.2.1, ((Int.tmod r2.1.1 (64 : Int)), r0.1.1.2.2.2.2.2))))), ()), ()))
  else some ((r0.1.1, ()), ())
noncomputable def E213 (c262 : F262) (c168 : F168) (c171 : F171) := mkE [g262 c262, g168 c168, g171 c171]
theorem s213 (c262 : F262) (c168 : F168) (c171 : F171)  (y) : tevF (E213 c262 c168 c171 ) Tryz.f213 i213 o213 y = m213 c262 c168 c171  y := by kernel_rfl
noncomputable def r213 : F213 := m213 r262 r168 r171 
theorem k213 : CK Tryz.prog (g213 r213) := fn0 (s213 r262 r168 r171) (fnsL_ok ⟨k262, k168, k171, trivial⟩) rfl mixed (by kernel_rfl) (by kernel_rfl) (by kernel_rfl)
@[reducible] def i283 : List Ty := [.a q2, .v (.int .i64)]
@[reducible] def o283 : List Ty := [.v (.int .i64)]
abbrev R283 := Option (PTup o283 × BTup i283)
abbrev F283 := PTup i283 → R283
abbrev g283 (c : F283) : Nat × Tev.Fn := (283, ⟨i283, o283, c, .nor⟩)
noncomputable def m283   (y : PTup i283) : Option (PTup o283 × BTup i283) :=
  bif (leI (0 : Int) (Int.tmod (wI ((wI ((Int.tmod y.2.1 (8 : Int)) + y.1.2.2.1)) + (wI (Int.tdiv y.2.1 (8 : Int))))) (16 : Int))) then (bif (ltI (Int.tmod (wI ((wI ((Int.tmod y.2.1 (8 : Int)) + y.1.2.2.1)) + (wI (Int.tdiv y.2.1 (8 : Int))))) (16 : Int)) (lenI y.1.2.2.2.2.2.2.1)) then (some (((bXor Go.IntKind.i64 (rdE .i y.1.2.2.2.2.2.2.1 (Int.tmod (wI ((wI ((Int.tmod y.2.1 (8 : Int)) + y.1.2.2.1)) + (wI (Int.tdiv y.2.1 (8 : Int))))) (16 : Int))) y.1.2.2.2.2.1), ()), ()))
   else none)
  else none
noncomputable def E283  := mkE []
theorem s283   (y) : tevF (E283  ) Tryz.f283 i283 o283 y = m283   y := by kernel_rfl
noncomputable def r283 : F283 := m283  
theorem k283 : CK Tryz.prog (g283 r283) := fn0 (s283 ) (fnsL_ok trivial) rfl mixed (by kernel_rfl) (by kernel_rfl) (by kernel_rfl)
@[reducible] def i214 : List Ty := [.a q2]
@[reducible] def o214 : List Ty := [.a q10, .v (.sl true .i), .v (.bool)]
abbrev R214 := Option (PTup o214 × BTup i214)
abbrev F214 := PTup i214 → R214
abbrev g214 (c : F214) : Nat × Tev.Fn := (214, ⟨i214, o214, c, .nor⟩)
noncomputable def m214 (c171 : F171) (c283 : F283)  (y : PTup i214) : Option (PTup o214 × BTup i214) :=
  (c171 (y.1, ())).bind fun r0 =>
  bif (eqI y.1.1 (20000 : Int)) then (some ((r0.1.1, ([], (false, ()))), ()))
  else bif (ltI (Int.tmod y.1.1 (64 : Int)) (48 : Int)) then ((c283 (y.1, ((Int.tmod y.1.1 (64 : Int)), ()))).bind fun r1 =>
   bif (leN ((List.length r0.1.1.2.2.2.2.2.2.2.1) + (List.length (r1.1.1 :: []))) (E.most .i)) then (some ((((wI (y.1.1 + (1 : Int))), (r0.1.1.2.1, (r0.1.1.2.2.1, (r0.1.1.2.2.2.1, (r0.1.1.2.2.2.2.1, (r0.1.1.2.2.2.2.2.1, (r0.1.1.2.2.2.2.2.2.1, ((r0.1.1.2.2.2.2.2.2.2.1 ++ (r1.1.1 :: [])), ())))))))), ([], (false, ()))), ()))
   else none)
  else bif (eqI (Int.tmod y.1.1 (64 : Int)) (48 : Int)) then (bif (leN (0 + (List.length y.1.2.2.2.2.2.2.2.1)) (E.most .i)) then (some ((((wI (y.1.1 + (1 : Int))), (r0.1.1.2.1, (r0.1.1.2.2.1, (r0.1.1.2.2.2.1, (r0.1.1.2.2.2.2.1, (true, (r0.1.1.2.2.2.2.2.2.1, ([], ())))))))), (([] ++ y.1.2.2.2.2.2.2.2.1), ((ltI (127 : Int) y.1.2.1), ()))), ()))
   else none)
  else bif (eqI (Int.tmod y.1.1 (64 : Int)) (63 : Int)) then (some ((((wI (y.1.1 + (1 : Int))), (r0.1.1.2.1, (r0.1.1.2.2.1, (r0.1.1.2.2.2.1, (r0.1.1.2.2.2.2.1, (false, r0.1.1.2.2.2.2.2.2)))))), ([], (false, ()))), ()))
  else some ((((wI (y.1.1 + (1 : Int))), r0.1.1.2), ([], (false, ()))), ())
noncomputable def E214 (c171 : F171) (c283 : F283) := mkE [g171 c171, g283 c283]
theorem s214 (c171 : F171) (c283 : F283)  (y) : tevF (E214 c171 c283 ) Tryz.f214 i214 o214 y = m214 c171 c283  y := by kernel_rfl
noncomputable def r214 : F214 := m214 r171 r283 
theorem k214 : CK Tryz.prog (g214 r214) := fn0 (s214 r171 r283) (fnsL_ok ⟨k171, k283, trivial⟩) rfl mixed (by kernel_rfl) (by kernel_rfl) (by kernel_rfl)
@[reducible] def i111 : List Ty := [.a q12, .v (.int .i64)]
@[reducible] def o111 : List Ty := [.a q12, .v (.bool)]
abbrev R111 := Option (PTup o111 × BTup i111)
abbrev F111 := PTup i111 → R111
abbrev g111 (c : F111) : Nat × Tev.Fn := (111, ⟨i111, o111, c, .nor⟩)
noncomputable def m111 (c213 : F213) (c214 : F214)  (y : PTup i111) : Option (PTup o111 × BTup i111) :=
  let a0 := y.1; let a1 := a0.2; let a2 := a1.2; let a3 := a2.2; let a4 := a3.2; let a5 := a4.2; let a6 := a5.2; let a7 := a6.2; let a8 := a7.2; let a9 := a8.2; let X0 : R111 := bif (leI y.2.1 a0.1) then (some ((a0, (false, ())), ())) else bif (eqI a0.1 (20000 : Int)) then (some ((a0, (false, ())), ())) else (c214 ((a0.1, (a1.1, (a2.1, (a3.1, (a4.1, (a5.1, (a6.1, (a7.1, ())))))))), ())).bind fun r0 => bif (eqI (Int.tmod a0.1 (64 : Int)) (48 : Int)) then (bif (leN ((List.length a9.2.1) + (List.length (r0.1.2.1 :: []))) (E.most .n)) then (some (((r0.1.1.1, (r0.1.1.2.1, (r0.1.1.2.2.1, (r0.1.1.2.2.2.1, (r0.1.1.2.2.2.2.1, (r0.1.1.2.2.2.2.2.1, (r0.1.1.2.2.2.2.2.2.1, (r0.1.1.2.2.2.2.2.2.2.1, (a8.1, (a9.1, ((a9.2.1 ++ (r0.1.2.1 :: [])), ()))))))))))), (true, ())), ())) else none) else some (((r0.1.1.1, (r0.1.1.2.1, (r0.1.1.2.2.1, (r0.1.1.2.2.2.1, (r0.1.1.2.2.2.2.1, (r0.1.1.2.2.2.2.2.1, (r0.1.1.2.2.2.2.2.2.1, (r0.1.1.2.2.2.2.2.2.2.1, a8)))))))), (true, ())), ()); bif (ltI (0 : Int) (lenI a9.1)) then (bif (ltI (0 : Int) (lenI a9.1)) then (bif (eqI (rdE .t a9.1 (0 : Int)).1 a0.1) then (bif (ltI (0 : Int) (lenI a9.1)) then (bif (leI (1 : Int) (lenI a9.1)) then (bif (leN (0 + (List.length (List.drop (Int.toNat (1 : Int)) a9.1))) (E.most .t)) then ((c213 ((a0.1, (a1.1, (a2.1, (a3.1, (a4.1, (a5.1, (a6.1, (a7.1, ())))))))), ((rdE .t a9.1 (0 : Int)).2.1, ((rdE .t a9.1 (0 : Int)).2.2, ())))).bind fun r0 => some (((r0.1.1.1, (r0.1.1.2.1, (r0.1.1.2.2.1, (r0.1.1.2.2.2.1, (r0.1.1.2.2.2.2.1, (r0.1.1.2.2.2.2.2.1, (r0.1.1.2.2.2.2.2.2.1, (r0.1.1.2.2.2.2.2.2.2.1, (a8.1, (([] ++ (List.drop (Int.toNat (1 : Int)) a9.1)), a9.2)))))))))), (true, ())), ())) else none) else none) else none) else X0) else none) else X0
noncomputable def E111 (c213 : F213) (c214 : F214) := mkE [g213 c213, g214 c214]
theorem s111 (c213 : F213) (c214 : F214)  (y) : tevF (E111 c213 c214 ) Tryz.f111 i111 o111 y = m111 c213 c214  y := by kernel_rfl
noncomputable def r111 : F111 := m111 r213 r214 
theorem k111 : CK Tryz.prog (g111 r111) := fn0 (s111 r213 r214) (fnsL_ok ⟨k213, k214, trivial⟩) rfl mixed (by kernel_rfl) (by kernel_rfl) (by kernel_rfl)
@[reducible] def i60 : List Ty := [.a q4, .v (.int .i64)]
@[reducible] def o60 : List Ty := [.a q12]
abbrev R60 := Option (PTup o60 × BTup i60)
abbrev F60 := PTup i60 → R60
abbrev g60 (c : F60) : Nat × Tev.Fn := (60, ⟨i60, o60, c, .nor⟩)
@[reducible] def lc60_0 : List Ty := [.v (.int .i64)]
@[reducible] def lb60_0 : List Ty := [.p q12]
@[reducible] def lv60_0 : List Ty := [.v (.bool)]
@[reducible] def lr60_0 : List Ty := []
abbrev R60_0 := Option (Sum (PTup lv60_0) (PTup lr60_0) × BTup lb60_0)
abbrev B60_0 := PTup lb60_0 → PTup lv60_0 → R60_0
abbrev A60_0 := PTup lc60_0 → B60_0
noncomputable def w60_0 (c139 : F139) (c111 : F111) (c134 : F134)  (again : B60_0) (x : PTup lc60_0) (y : PTup lb60_0) (z : PTup lv60_0) : R60_0 :=
  bif z.1 then ((c111 (y.1, x)).bind fun r0 =>
   again (r0.1.1, ()) r0.1.2)
  else some ((Sum.inl z), (y.1, ()))
noncomputable def e60_0 (l : A60_0) : LoopE := ⟨[1], lc60_0, [5], lb60_0, [6], lv60_0, [], lr60_0, 0, [], l⟩
noncomputable def m60 (c139 : F139) (c111 : F111) (c134 : F134) (l0 : A60_0) (y : PTup i60) : Option (PTup o60 × BTup i60) :=
  (c139 (y.1, ())).bind fun r0 =>
  bif (!r0.1.1) then (some ((((0 : Int), ((0 : Int), ((0 : Int), ((0 : Int), ((0 : Int), (false, ([], ([], ((0 : Int), ([], ([], ()))))))))))), ()), ()))
  else (c134 (y.1, ())).bind fun r1 =>
  (l0 y.2 (r1.1.1, ()) (true, ())).bind fun r2 =>
  sumElim r2.1 (fun r3 => some ((r2.2.1, ()), ()))
  (fun r3 => some ((((0 : Int), ((0 : Int), ((0 : Int), ((0 : Int), ((0 : Int), (false, ([], ([], ((0 : Int), ([], ([], ()))))))))))), ()), ()))
noncomputable def E60 (c139 : F139) (c111 : F111) (c134 : F134) (l0 : A60_0) : CEnv := ⟨⟨Tryz.prog, fnsL [g139 c139, g111 c111, g134 c134]⟩, loopsL [(5, e60_0 l0)]⟩
theorem t60_0 (c139 : F139) (c111 : F111) (c134 : F134) (l0 : A60_0) (again) (x y z) : loopRound (E60 c139 c111 c134 l0) (loopAt (bodyOf Tryz.f60) 0) (e60_0 l0) Tryz.f60.ntmps again x y z = w60_0 c139 c111 c134  again x y z := by kernel_rfl
noncomputable def n60_0 (c139 : F139) (c111 : F111) (c134 : F134)  : Nat → A60_0
  | 0, _, _, _ => none
  | n + 1, x, y, z => w60_0 c139 c111 c134  (fun y z => n60_0 c139 c111 c134  n x y z) x y z
theorem s60 (c139 : F139) (c111 : F111) (c134 : F134) (l0 : A60_0) (y) : tevF (E60 c139 c111 c134 l0) Tryz.f60 i60 o60 y = m60 c139 c111 c134 l0 y := by kernel_rfl
noncomputable def L60_0 : A60_0 := n60_0 r139 r111 r134  fuel
noncomputable def r60 : F60 := m60 r139 r111 r134 L60_0
theorem k60 : CK Tryz.prog (g60 r60) := by
  have hE : ∀ g f, (E60 r139 r111 r134 L60_0).env.fns g = some f → CallOk Tryz.prog g f := fnsL_ok ⟨k139, k111, k134, trivial⟩
  have h0 : LoopOk Tryz.prog Tryz.f60.ntmps (loopAt (bodyOf Tryz.f60) 0) (e60_0 L60_0) := lp_ok (E := E60 r139 r111 r134 L60_0) rfl hE mixed (AllLoops.of_list (l := []) (by kernel_rfl) trivial) (n60_0 r139 r111 r134 ) (fun _ _ _ => rfl) (fun n x y z => t60_0 r139 r111 r134 L60_0 _ x y z) rfl
  exact fn_ok (E := E60 r139 r111 r134 L60_0) rfl hE mixed (by kernel_rfl) (by kernel_rfl) (AllLoops.of_list (l := [(loopAt (bodyOf Tryz.f60) 0)]) (by kernel_rfl) (.one (by kernel_rfl) h0 trivial)) (s60 r139 r111 r134 L60_0)
@[reducible] def i215 : List Ty := [.a q13, .v (.int .i64), .v (.int .i64)]
@[reducible] def o215 : List Ty := [.a q13]
abbrev R215 := Option (PTup o215 × BTup i215)
abbrev F215 := PTup i215 → R215
abbrev g215 (c : F215) : Nat × Tev.Fn := (215, ⟨i215, o215, c, .nor⟩)
noncomputable def m215 (c169 : F169) (c262 : F262)  (y : PTup i215) : Option (PTup o215 × BTup i215) :=
  (c169 (y.1, ())).bind fun r0 =>
  bif (!r0.1.1) then (some ((y.1, ()), ()))
  else (c262 y.2.2).bind fun r1 =>
  bif (eqI y.2.1 (0 : Int)) then (some (((y.1.1, (r1.1.1, y.1.2.2)), ()), ()))
  else bif (eqI y.2.1 (1 : Int)) then (some (((y.1.1, (y.1.2.1, (y.1.2.2.1, (y.1.2.2.2.1, ((Int.tmod r1.1.1 (32 : Int)), y.1.2.2.2.2.2))))), ()), ()))
  else bif (eqI y.2.1 (2 : Int)) then (bif y.1.2.2.2.2.2.2.1 then (some (((y.1.1, (y.1.2.1, (y.1.2.2.1, (y.1.2.2.2.1, (y.1.2.2.2.2.1, ((eqI (Int.tmod r1.1.1 (2 : Int)) (1 : Int)), ((eqI (Int.tmod r1.1.1 (2 : Int)) (1 : Int)), ()))))))), ()), ()))
   else some (((y.1.1, (y.1.2.1, (y.1.2.2.1, (y.1.2.2.2.1, (y.1.2.2.2.2.1, ((eqI (Int.tmod r1.1.1 (2 : Int)) (1 : Int)), (false, ()))))))), ()), ()))
  else bif (eqI y.2.1 (3 : Int)) then (some (((y.1.1, (y.1.2.1, (y.1.2.2.1, (y.1.2.2.2.1, (y.1.2.2.2.2.1, (y.1.2.2.2.2.2.1, (false, ()))))))), ()), ()))
  else some ((y.1, ()), ())
noncomputable def E215 (c169 : F169) (c262 : F262) := mkE [g169 c169, g262 c262]
theorem s215 (c169 : F169) (c262 : F262)  (y) : tevF (E215 c169 c262 ) Tryz.f215 i215 o215 y = m215 c169 c262  y := by kernel_rfl
noncomputable def r215 : F215 := m215 r169 r262 
theorem k215 : CK Tryz.prog (g215 r215) := fn0 (s215 r169 r262) (fnsL_ok ⟨k169, k262, trivial⟩) rfl mixed (by kernel_rfl) (by kernel_rfl) (by kernel_rfl)
@[reducible] def i216 : List Ty := [.a q13]
@[reducible] def o216 : List Ty := [.a q13, .v (.int .i64), .v (.bool)]
abbrev R216 := Option (PTup o216 × BTup i216)
abbrev F216 := PTup i216 → R216
abbrev g216 (c : F216) : Nat × Tev.Fn := (216, ⟨i216, o216, c, .nor⟩)
noncomputable def m216   (y : PTup i216) : Option (PTup o216 × BTup i216) :=
  let a0 := y.1; let a1 := a0.1; let a2 := a0.2; let a3 := a2.1; let a4 := a2.2; let a5 := a4.1; let a6 := a4.2; let a7 := a6.1; let a8 := a6.2; let a9 := a8.1; let a10 := a8.2; let a11 := a10.1; let X0 : R216 := bif (eqI (Int.tmod a1 (16 : Int)) (15 : Int)) then (bif (ltI (0 : Int) a9) then (some ((((wI (a1 + (1 : Int))), (a3, (a3, ((wI ((1 : Int) - a7)), a8)))), ((wI ((8 : Int) * (wI ((1 : Int) - a7)))), ((eqI (Int.tmod a1 (16 : Int)) (15 : Int)), ()))), ())) else some ((((wI (a1 + (1 : Int))), (a3, (a3, ((wI ((1 : Int) - a7)), a8)))), ((0 : Int), ((eqI (Int.tmod a1 (16 : Int)) (15 : Int)), ()))), ())) else some ((((wI (a1 + (1 : Int))), (a3, (a3, ((wI ((1 : Int) - a7)), a8)))), ((0 : Int), ((eqI (Int.tmod a1 (16 : Int)) (15 : Int)), ()))), ()); let X1 : R216 := bif (eqI (Int.tmod a1 (16 : Int)) (15 : Int)) then (bif (ltI (0 : Int) a9) then (some ((((wI (a1 + (1 : Int))), (a3, ((wI (a5 - (1 : Int))), a6))), ((wI ((8 : Int) * a7)), ((eqI (Int.tmod a1 (16 : Int)) (15 : Int)), ()))), ())) else some ((((wI (a1 + (1 : Int))), (a3, ((wI (a5 - (1 : Int))), a6))), ((0 : Int), ((eqI (Int.tmod a1 (16 : Int)) (15 : Int)), ()))), ())) else some ((((wI (a1 + (1 : Int))), (a3, ((wI (a5 - (1 : Int))), a6))), ((0 : Int), ((eqI (Int.tmod a1 (16 : Int)) (15 : Int)), ()))), ()); let X2 : R216 := bif (eqI (Int.tmod a1 (16 : Int)) (15 : Int)) then (bif (ltI (0 : Int) a9) then (some ((((wI (a1 + (1 : Int))), (a3, (a3, a6))), ((wI ((8 : Int) * a7)), ((eqI (Int.tmod a1 (16 : Int)) (15 : Int)), ()))), ())) else some ((((wI (a1 + (1 : Int))), (a3, (a3, a6))), ((0 : Int), ((eqI (Int.tmod a1 (16 : Int)) (15 : Int)), ()))), ())) else some ((((wI (a1 + (1 : Int))), (a3, (a3, a6))), ((0 : Int), ((eqI (Int.tmod a1 (16 : Int)) (15 : Int)), ()))), ()); let X3 : R216 := some ((((wI (a1 + (1 : Int))), (a3, ((wI (a5 - (1 : Int))), (a7, ((wI (a9 - (1 : Int))), (a11, (a11, ()))))))), ((0 : Int), ((eqI (Int.tmod a1 (16 : Int)) (15 : Int)), ()))), ()); let X4 : R216 := some ((((wI (a1 + (1 : Int))), (a3, (a3, ((wI ((1 : Int) - a7)), ((wI (a9 - (1 : Int))), (a11, (a11, ()))))))), ((0 : Int), ((eqI (Int.tmod a1 (16 : Int)) (15 : Int)), ()))), ()); let X5 : R216 := some ((((wI (a1 + (1 : Int))), (a3, ((wI (a5 - (1 : Int))), (a7, ((wI (a9 - (1 : Int))), (a11, (false, ()))))))), ((0 : Int), ((eqI (Int.tmod a1 (16 : Int)) (15 : Int)), ()))), ()); let X6 : R216 := some ((((wI (a1 + (1 : Int))), (a3, ((wI (a5 - (1 : Int))), (a7, ((wI (a9 - (1 : Int))), (a11, (true, ()))))))), ((0 : Int), ((eqI (Int.tmod a1 (16 : Int)) (15 : Int)), ()))), ()); let X7 : R216 := some ((((wI (a1 + (1 : Int))), (a3, (a3, ((wI ((1 : Int) - a7)), ((wI (a9 - (1 : Int))), (a11, (false, ()))))))), ((0 : Int), ((eqI (Int.tmod a1 (16 : Int)) (15 : Int)), ()))), ()); let X8 : R216 := some ((((wI (a1 + (1 : Int))), (a3, (a3, ((wI ((1 : Int) - a7)), ((wI (a9 - (1 : Int))), (a11, (true, ()))))))), ((0 : Int), ((eqI (Int.tmod a1 (16 : Int)) (15 : Int)), ()))), ()); let X9 : R216 := some ((((wI (a1 + (1 : Int))), (a3, (a3, (a7, ((wI (a9 - (1 : Int))), (a11, (a11, ()))))))), ((0 : Int), ((eqI (Int.tmod a1 (16 : Int)) (15 : Int)), ()))), ()); let X10 : R216 := some ((((wI (a1 + (1 : Int))), (a3, (a3, (a7, ((wI (a9 - (1 : Int))), (a11, (false, ()))))))), ((0 : Int), ((eqI (Int.tmod a1 (16 : Int)) (15 : Int)), ()))), ()); let X11 : R216 := some ((((wI (a1 + (1 : Int))), (a3, (a3, (a7, ((wI (a9 - (1 : Int))), (a11, (true, ()))))))), ((0 : Int), ((eqI (Int.tmod a1 (16 : Int)) (15 : Int)), ()))), ()); bif (eqI a1 (20000 : Int)) then (some ((a0, ((0 : Int), (false, ()))), ())) else bif (eqI a5 (0 : Int)) then (bif (ltI (0 : Int) a9) then (bif (eqI (Int.tmod a1 (32 : Int)) (0 : Int)) then (bif (ltI (0 : Int) a9) then (bif a10.2.1 then (bif (eqI (Int.tmod a1 (16 : Int)) (15 : Int)) then (bif (ltI (0 : Int) (wI (a9 - (1 : Int)))) then (some ((((wI (a1 + (1 : Int))), (a3, (a3, ((wI ((1 : Int) - a7)), ((wI (a9 - (1 : Int))), (a11, (true, ()))))))), ((wI ((8 : Int) * (wI ((1 : Int) - a7)))), ((eqI (Int.tmod a1 (16 : Int)) (15 : Int)), ()))), ())) else X8) else X8) else bif (eqI (wI (a9 - (1 : Int))) (0 : Int)) then (bif (eqI (Int.tmod a1 (16 : Int)) (15 : Int)) then (bif (ltI (0 : Int) (wI (a9 - (1 : Int)))) then (some ((((wI (a1 + (1 : Int))), (a3, (a3, ((wI ((1 : Int) - a7)), ((wI (a9 - (1 : Int))), (a11, (a11, ()))))))), ((wI ((8 : Int) * (wI ((1 : Int) - a7)))), ((eqI (Int.tmod a1 (16 : Int)) (15 : Int)), ()))), ())) else X4) else X4) else bif (eqI (Int.tmod a1 (16 : Int)) (15 : Int)) then (bif (ltI (0 : Int) (wI (a9 - (1 : Int)))) then (some ((((wI (a1 + (1 : Int))), (a3, (a3, ((wI ((1 : Int) - a7)), ((wI (a9 - (1 : Int))), (a11, (false, ()))))))), ((wI ((8 : Int) * (wI ((1 : Int) - a7)))), ((eqI (Int.tmod a1 (16 : Int)) (15 : Int)), ()))), ())) else X7) else X7) else X0) else X0) else bif (eqI (Int.tmod a1 (32 : Int)) (0 : Int)) then (bif (ltI (0 : Int) a9) then (bif a10.2.1 then (bif (eqI (Int.tmod a1 (16 : Int)) (15 : Int)) then (bif (ltI (0 : Int) (wI (a9 - (1 : Int)))) then (some ((((wI (a1 + (1 : Int))), (a3, (a3, (a7, ((wI (a9 - (1 : Int))), (a11, (true, ()))))))), ((wI ((8 : Int) * a7)), ((eqI (Int.tmod a1 (16 : Int)) (15 : Int)), ()))), ())) else X11) else X11) else bif (eqI (wI (a9 - (1 : Int))) (0 : Int)) then (bif (eqI (Int.tmod a1 (16 : Int)) (15 : Int)) then (bif (ltI (0 : Int) (wI (a9 - (1 : Int)))) then (some ((((wI (a1 + (1 : Int))), (a3, (a3, (a7, ((wI (a9 - (1 : Int))), (a11, (a11, ()))))))), ((wI ((8 : Int) * a7)), ((eqI (Int.tmod a1 (16 : Int)) (15 : Int)), ()))), ())) else X9) else X9) else bif (eqI (Int.tmod a1 (16 : Int)) (15 : Int)) then (bif (ltI (0 : Int) (wI (a9 - (1 : Int)))) then (some ((((wI (a1 + (1 : Int))), (a3, (a3, (a7, ((wI (a9 - (1 : Int))), (a11, (false, ()))))))), ((wI ((8 : Int) * a7)), ((eqI (Int.tmod a1 (16 : Int)) (15 : Int)), ()))), ())) else X10) else X10) else X2) else X2) else bif (eqI (Int.tmod a1 (32 : Int)) (0 : Int)) then (bif (ltI (0 : Int) a9) then (bif a10.2.1 then (bif (eqI (Int.tmod a1 (16 : Int)) (15 : Int)) then (bif (ltI (0 : Int) (wI (a9 - (1 : Int)))) then (some ((((wI (a1 + (1 : Int))), (a3, ((wI (a5 - (1 : Int))), (a7, ((wI (a9 - (1 : Int))), (a11, (true, ()))))))), ((wI ((8 : Int) * a7)), ((eqI (Int.tmod a1 (16 : Int)) (15 : Int)), ()))), ())) else X6) else X6) else bif (eqI (wI (a9 - (1 : Int))) (0 : Int)) then (bif (eqI (Int.tmod a1 (16 : Int)) (15 : Int)) then (bif (ltI (0 : Int) (wI (a9 - (1 : Int)))) then (some ((((wI (a1 + (1 : Int))), (a3, ((wI (a5 - (1 : Int))), (a7, ((wI (a9 - (1 : Int))), (a11, (a11, ()))))))), ((wI ((8 : Int) * a7)), ((eqI (Int.tmod a1 (16 : Int)) (15 : Int)), ()))), ())) else X3) else X3) else bif (eqI (Int.tmod a1 (16 : Int)) (15 : Int)) then (bif (ltI (0 : Int) (wI (a9 - (1 : Int)))) then (some ((((wI (a1 + (1 : Int))), (a3, ((wI (a5 - (1 : Int))), (a7, ((wI (a9 - (1 : Int))), (a11, (false, ()))))))), ((wI ((8 : Int) * a7)), ((eqI (Int.tmod a1 (16 : Int)) (15 : Int)), ()))), ())) else X5) else X5) else X1) else X1
noncomputable def E216  := mkE []
theorem s216   (y) : tevF (E216  ) Tryz.f216 i216 o216 y = m216   y := by kernel_rfl
noncomputable def r216 : F216 := m216  
theorem k216 : CK Tryz.prog (g216 r216) := fn0 (s216 ) (fnsL_ok trivial) rfl mixed (by kernel_rfl) (by kernel_rfl) (by kernel_rfl)
@[reducible] def i112 : List Ty := [.a q14, .v (.int .i64)]
@[reducible] def o112 : List Ty := [.a q14, .v (.bool)]
abbrev R112 := Option (PTup o112 × BTup i112)
abbrev F112 := PTup i112 → R112
abbrev g112 (c : F112) : Nat × Tev.Fn := (112, ⟨i112, o112, c, .nor⟩)
noncomputable def m112 (c215 : F215) (c216 : F216)  (y : PTup i112) : Option (PTup o112 × BTup i112) :=
  let a0 := y.1; let a1 := a0.2; let a2 := a1.2; let a3 := a2.2; let a4 := a3.2; let a5 := a4.2; let a6 := a5.2; let a7 := a6.2; let a8 := a7.2; let a9 := a8.1; let X0 : R112 := bif (leI y.2.1 a0.1) then (some ((a0, (false, ())), ())) else bif (eqI a0.1 (20000 : Int)) then (some ((a0, (false, ())), ())) else (c216 ((a0.1, (a1.1, (a2.1, (a3.1, (a4.1, (a5.1, (a6.1, ()))))))), ())).bind fun r0 => bif r0.1.2.2.1 then (bif (leN ((List.length a8.2.1) + (List.length (r0.1.2.1 :: []))) (E.most .i)) then (some (((r0.1.1.1, (r0.1.1.2.1, (r0.1.1.2.2.1, (r0.1.1.2.2.2.1, (r0.1.1.2.2.2.2.1, (r0.1.1.2.2.2.2.2.1, (r0.1.1.2.2.2.2.2.2.1, (a7.1, (a9, ((a8.2.1 ++ (r0.1.2.1 :: [])), ())))))))))), (true, ())), ())) else none) else some (((r0.1.1.1, (r0.1.1.2.1, (r0.1.1.2.2.1, (r0.1.1.2.2.2.1, (r0.1.1.2.2.2.2.1, (r0.1.1.2.2.2.2.2.1, (r0.1.1.2.2.2.2.2.2.1, a7))))))), (true, ())), ()); bif (ltI (0 : Int) (lenI a9)) then (bif (ltI (0 : Int) (lenI a9)) then (bif (eqI (rdE .t a9 (0 : Int)).1 a0.1) then (bif (ltI (0 : Int) (lenI a9)) then (bif (leI (1 : Int) (lenI a9)) then (bif (leN (0 + (List.length (List.drop (Int.toNat (1 : Int)) a9))) (E.most .t)) then ((c215 ((a0.1, (a1.1, (a2.1, (a3.1, (a4.1, (a5.1, (a6.1, ()))))))), ((rdE .t a9 (0 : Int)).2.1, ((rdE .t a9 (0 : Int)).2.2, ())))).bind fun r0 => some (((r0.1.1.1, (r0.1.1.2.1, (r0.1.1.2.2.1, (r0.1.1.2.2.2.1, (r0.1.1.2.2.2.2.1, (r0.1.1.2.2.2.2.2.1, (r0.1.1.2.2.2.2.2.2.1, (a7.1, (([] ++ (List.drop (Int.toNat (1 : Int)) a9)), a8.2))))))))), (true, ())), ())) else none) else none) else none) else X0) else none) else X0
noncomputable def E112 (c215 : F215) (c216 : F216) := mkE [g215 c215, g216 c216]
theorem s112 (c215 : F215) (c216 : F216)  (y) : tevF (E112 c215 c216 ) Tryz.f112 i112 o112 y = m112 c215 c216  y := by kernel_rfl
noncomputable def r112 : F112 := m112 r215 r216 
theorem k112 : CK Tryz.prog (g112 r112) := fn0 (s112 r215 r216) (fnsL_ok ⟨k215, k216, trivial⟩) rfl mixed (by kernel_rfl) (by kernel_rfl) (by kernel_rfl)
@[reducible] def i61 : List Ty := [.a q5, .v (.int .i64)]
@[reducible] def o61 : List Ty := [.a q14]
abbrev R61 := Option (PTup o61 × BTup i61)
abbrev F61 := PTup i61 → R61
abbrev g61 (c : F61) : Nat × Tev.Fn := (61, ⟨i61, o61, c, .nor⟩)
@[reducible] def lc61_0 : List Ty := [.v (.int .i64)]
@[reducible] def lb61_0 : List Ty := [.p q14]
@[reducible] def lv61_0 : List Ty := [.v (.bool)]
@[reducible] def lr61_0 : List Ty := []
abbrev R61_0 := Option (Sum (PTup lv61_0) (PTup lr61_0) × BTup lb61_0)
abbrev B61_0 := PTup lb61_0 → PTup lv61_0 → R61_0
abbrev A61_0 := PTup lc61_0 → B61_0
noncomputable def w61_0 (c140 : F140) (c112 : F112) (c135 : F135)  (again : B61_0) (x : PTup lc61_0) (y : PTup lb61_0) (z : PTup lv61_0) : R61_0 :=
  bif z.1 then ((c112 (y.1, x)).bind fun r0 =>
   again (r0.1.1, ()) r0.1.2)
  else some ((Sum.inl z), (y.1, ()))
noncomputable def e61_0 (l : A61_0) : LoopE := ⟨[1], lc61_0, [5], lb61_0, [6], lv61_0, [], lr61_0, 0, [], l⟩
noncomputable def m61 (c140 : F140) (c112 : F112) (c135 : F135) (l0 : A61_0) (y : PTup i61) : Option (PTup o61 × BTup i61) :=
  (c140 (y.1, ())).bind fun r0 =>
  bif (!r0.1.1) then (some ((((0 : Int), ((0 : Int), ((0 : Int), ((0 : Int), ((0 : Int), (false, (false, ((0 : Int), ([], ([], ())))))))))), ()), ()))
  else (c135 (y.1, ())).bind fun r1 =>
  (l0 y.2 (r1.1.1, ()) (true, ())).bind fun r2 =>
  sumElim r2.1 (fun r3 => some ((r2.2.1, ()), ()))
  (fun r3 => some ((((0 : Int), ((0 : Int), ((0 : Int), ((0 : Int), ((0 : Int), (false, (false, ((0 : Int), ([], ([], ())))))))))), ()), ()))
noncomputable def E61 (c140 : F140) (c112 : F112) (c135 : F135) (l0 : A61_0) : CEnv := ⟨⟨Tryz.prog, fnsL [g140 c140, g112 c112, g135 c135]⟩, loopsL [(5, e61_0 l0)]⟩
theorem t61_0 (c140 : F140) (c112 : F112) (c135 : F135) (l0 : A61_0) (again) (x y z) : loopRound (E61 c140 c112 c135 l0) (loopAt (bodyOf Tryz.f61) 0) (e61_0 l0) Tryz.f61.ntmps again x y z = w61_0 c140 c112 c135  again x y z := by kernel_rfl
noncomputable def n61_0 (c140 : F140) (c112 : F112) (c135 : F135)  : Nat → A61_0
  | 0, _, _, _ => none
  | n + 1, x, y, z => w61_0 c140 c112 c135  (fun y z => n61_0 c140 c112 c135  n x y z) x y z
theorem s61 (c140 : F140) (c112 : F112) (c135 : F135) (l0 : A61_0) (y) : tevF (E61 c140 c112 c135 l0) Tryz.f61 i61 o61 y = m61 c140 c112 c135 l0 y := by kernel_rfl
noncomputable def L61_0 : A61_0 := n61_0 r140 r112 r135  fuel
noncomputable def r61 : F61 := m61 r140 r112 r135 L61_0
theorem k61 : CK Tryz.prog (g61 r61) := by
  have hE : ∀ g f, (E61 r140 r112 r135 L61_0).env.fns g = some f → CallOk Tryz.prog g f := fnsL_ok ⟨k140, k112, k135, trivial⟩
  have h0 : LoopOk Tryz.prog Tryz.f61.ntmps (loopAt (bodyOf Tryz.f61) 0) (e61_0 L61_0) := lp_ok (E := E61 r140 r112 r135 L61_0) rfl hE mixed (AllLoops.of_list (l := []) (by kernel_rfl) trivial) (n61_0 r140 r112 r135 ) (fun _ _ _ => rfl) (fun n x y z => t61_0 r140 r112 r135 L61_0 _ x y z) rfl
  exact fn_ok (E := E61 r140 r112 r135 L61_0) rfl hE mixed (by kernel_rfl) (by kernel_rfl) (AllLoops.of_list (l := [(loopAt (bodyOf Tryz.f61) 0)]) (by kernel_rfl) (.one (by kernel_rfl) h0 trivial)) (s61 r140 r112 r135 L61_0)
@[reducible] def i16 : List Ty := [.a q6]
@[reducible] def o16 : List Ty := [.a q15]
abbrev R16 := Option (PTup o16 × BTup i16)
abbrev F16 := PTup i16 → R16
abbrev g16 (c : F16) : Nat × Tev.Fn := (16, ⟨i16, o16, c, .nor⟩)
noncomputable def m16 (c60 : F60) (c61 : F61) (c59 : F59) (c58 : F58)  (y : PTup i16) : Option (PTup o16 × BTup i16) :=
  let a0 := y.1; let a1 := a0.2; let a2 := a1.2; let a3 := a2.2; let a4 := a3.2; let a5 := a4.2; let a6 := a5.2; let a7 := a6.2; let a8 := a7.2; let a9 := a8.2; let a10 := a9.2.2; let a11 := a10.2; let a12 := a11.2; let a13 := a12.2; let a14 := a13.2; let a15 := a14.2; let a16 := a15.2; let a17 := a16.2; let a18 := a17.2; let a19 := a18.2; let a20 := a19.2; let a21 := a20.2; let a22 := a21.2; let a23 := a22.2.2; let a24 := a23.2.2; (c58 (a0, ())).bind fun r0 => let b0 := r0.1; let b1 := b0.1; let b2 := b1.2; let b3 := b2.2; let b4 := b3.2; let b5 := b4.2; let b6 := b5.2; let b7 := b6.2; let b8 := b7.2; let b9 := b8.2; let b10 := b9.2.2; let b11 := b10.2; let b12 := b11.2.2; let b13 := b12.2.2; (c59 (a0, ())).bind fun r1 =>
  bif (!r1.1.1) then (some ((b1, ()), ()))
  else (c60 ((a20.1, (a21.1, (a22.1, (a22.2.1, (a23.1, (a23.2.1, (a24.1, (a24.2.1, (a24.2.2.1, (a24.2.2.2.1, (a24.2.2.2.2.1, ()))))))))))), (a13.1, ()))).bind fun r2 =>
  (c61 (a24.2.2.2.2.2, (a13.1, ()))).bind fun r3 =>
  some (((b1.1, (b2.1, (b3.1, (b4.1, (b5.1, (b6.1, (b7.1, (b8.1, (b9.1, (b9.2.1, (b10.1, (b11.1, (b11.2.1, (b12.1, (b12.2.1, (b13.1, (b13.2.1, (b13.2.2.1, (b13.2.2.2.1, (b13.2.2.2.2.1, (b13.2.2.2.2.2.1, (r2.1.1.1, (r2.1.1.2.1, (r2.1.1.2.2.1, (r2.1.1.2.2.2.1, (r2.1.1.2.2.2.2.1, (r2.1.1.2.2.2.2.2.1, (r2.1.1.2.2.2.2.2.2.1, (r2.1.1.2.2.2.2.2.2.2.1, (r2.1.1.2.2.2.2.2.2.2.2.1, (r2.1.1.2.2.2.2.2.2.2.2.2.1, (r2.1.1.2.2.2.2.2.2.2.2.2.2.1, r3.1.1)))))))))))))))))))))))))))))))), ()), ())
noncomputable def E16 (c60 : F60) (c61 : F61) (c59 : F59) (c58 : F58) := mkE [g60 c60, g61 c61, g59 c59, g58 c58]
theorem s16 (c60 : F60) (c61 : F61) (c59 : F59) (c58 : F58)  (y) : tevF (E16 c60 c61 c59 c58 ) Tryz.f16 i16 o16 y = m16 c60 c61 c59 c58  y := by kernel_rfl
noncomputable def r16 : F16 := m16 r60 r61 r59 r58 
theorem k16 : CK Tryz.prog (g16 r16) := fn0 (s16 r60 r61 r59 r58) (fnsL_ok ⟨k60, k61, k59, k58, trivial⟩) rfl mixed (by kernel_rfl) (by kernel_rfl) (by kernel_rfl)
@[reducible] def i284 : List Ty := [.p [.int .i64, .sl true .t], .v (.int .i64)]
@[reducible] def o284 : List Ty := [.a q11, .v (.bool)]
abbrev R284 := Option (PTup o284 × BTup i284)
abbrev F284 := PTup i284 → R284
abbrev g284 (c : F284) : Nat × Tev.Fn := (284, ⟨i284, o284, c, .nor⟩)
noncomputable def m284   (y : PTup i284) : Option (PTup o284 × BTup i284) :=
  bif (eqI (lenI y.1.2.1) (0 : Int)) then (some ((((0 : Int), ((0 : Int), ((0 : Int), ()))), (false, ())), (y.1, ())))
  else bif (ltI (0 : Int) (lenI y.1.2.1)) then (bif (neI (rdE .t y.1.2.1 (0 : Int)).1 y.2.1) then (some ((((0 : Int), ((0 : Int), ((0 : Int), ()))), (false, ())), (y.1, ())))
   else bif (ltI (0 : Int) (lenI y.1.2.1)) then (bif (leI (1 : Int) (lenI y.1.2.1)) then (some ((((rdE .t y.1.2.1 (0 : Int)).1, ((rdE .t y.1.2.1 (0 : Int)).2.1, ((rdE .t y.1.2.1 (0 : Int)).2.2, ()))), (true, ())), ((y.1.1, ((List.drop (Int.toNat (1 : Int)) y.1.2.1), ())), ())))
    else none)
   else none)
  else none
noncomputable def E284  := mkE []
theorem s284   (y) : tevF (E284  ) Tryz.f284 i284 o284 y = m284   y := by kernel_rfl
noncomputable def r284 : F284 := m284  
theorem k284 : CK Tryz.prog (g284 r284) := fn0 (s284 ) (fnsL_ok trivial) rfl mixed (by kernel_rfl) (by kernel_rfl) (by kernel_rfl)
@[reducible] def i285 : List Ty := [.p [.int .i64, .int .i64, .int .i64, .int .i64, .int .i64, .bool, .sl true .i, .sl false .i], .v (.int .i64), .v (.int .i64)]
@[reducible] def o285 : List Ty := []
abbrev R285 := Option (PTup o285 × BTup i285)
abbrev F285 := PTup i285 → R285
abbrev g285 (c : F285) : Nat × Tev.Fn := (285, ⟨i285, o285, c, .nor⟩)
noncomputable def m285 (c316 : F316) (c294 : F294)  (y : PTup i285) : Option (PTup o285 × BTup i285) :=
  (c294 y.2.2).bind fun r0 =>
  bif (eqI y.2.1 (0 : Int)) then (some ((), ((y.1.1, (r0.1.1, y.1.2.2)), ())))
  else bif (eqI y.2.1 (1 : Int)) then (some ((), ((y.1.1, (y.1.2.1, (r0.1.1, y.1.2.2.2))), ())))
  else bif (eqI y.2.1 (3 : Int)) then (some ((), ((y.1.1, (y.1.2.1, (y.1.2.2.1, ((Int.tmod r0.1.1 (16 : Int)), y.1.2.2.2.2)))), ())))
  else bif (eqI y.2.1 (4 : Int)) then (bif (leI (0 : Int) y.1.2.2.2.1) then (bif (ltI y.1.2.2.2.1 (lenI y.1.2.2.2.2.2.2.1)) then ((c316 ((y.1.1, (y.1.2.1, (y.1.2.2.1, (y.1.2.2.2.1, (y.1.2.2.2.2.1, (y.1.2.2.2.2.2.1, ((List.set y.1.2.2.2.2.2.2.1 (Int.toNat y.1.2.2.2.1) (Int.tmod r0.1.1 (64 : Int))), y.1.2.2.2.2.2.2.2))))))), ())).bind fun r1 =>
     some ((), ((r1.2.1.1, (r1.2.1.2.1, (r1.2.1.2.2.1, (r1.2.1.2.2.2.1, (r1.2.1.2.2.2.2.1, (r1.2.1.2.2.2.2.2.1, ((List.set y.1.2.2.2.2.2.2.1 (Int.toNat y.1.2.2.2.1) (Int.tmod r0.1.1 (64 : Int))), y.1.2.2.2.2.2.2.2))))))), ())))
    else none)
   else none)
  else bif (eqI y.2.1 (5 : Int)) then (some ((), ((y.1.1, (y.1.2.1, (y.1.2.2.1, (y.1.2.2.2.1, ((Int.tmod r0.1.1 (64 : Int)), y.1.2.2.2.2.2))))), ())))
  else some ((), (y.1, ()))
noncomputable def E285 (c316 : F316) (c294 : F294) := mkE [g316 c316, g294 c294]
theorem s285 (c316 : F316) (c294 : F294)  (y) : tevF (E285 c316 c294 ) Tryz.f285 i285 o285 y = m285 c316 c294  y := by kernel_rfl
noncomputable def r285 : F285 := m285 r316 r294 
theorem k285 : CK Tryz.prog (g285 r285) := fn0 (s285 r316 r294) (fnsL_ok ⟨k316, k294, trivial⟩) rfl mixed (by kernel_rfl) (by kernel_rfl) (by kernel_rfl)
@[reducible] def i308 : List Ty := [.r q2, .v (.int .i64)]
@[reducible] def o308 : List Ty := [.v (.int .i64)]
abbrev R308 := Option (PTup o308 × BTup i308)
abbrev F308 := PTup i308 → R308
abbrev g308 (c : F308) : Nat × Tev.Fn := (308, ⟨i308, o308, c, .nor⟩)
noncomputable def m308   (y : PTup i308) : Option (PTup o308 × BTup i308) :=
  bif (leI (0 : Int) (Int.tmod (wI ((wI ((Int.tmod y.2.1 (8 : Int)) + y.1.2.2.1)) + (wI (Int.tdiv y.2.1 (8 : Int))))) (16 : Int))) then (bif (ltI (Int.tmod (wI ((wI ((Int.tmod y.2.1 (8 : Int)) + y.1.2.2.1)) + (wI (Int.tdiv y.2.1 (8 : Int))))) (16 : Int)) (lenI y.1.2.2.2.2.2.2.1)) then (some (((bXor Go.IntKind.i64 (rdE .i y.1.2.2.2.2.2.2.1 (Int.tmod (wI ((wI ((Int.tmod y.2.1 (8 : Int)) + y.1.2.2.1)) + (wI (Int.tdiv y.2.1 (8 : Int))))) (16 : Int))) y.1.2.2.2.2.1), ()), ()))
   else none)
  else none
noncomputable def E308  := mkE []
theorem s308   (y) : tevF (E308  ) Tryz.f308 i308 o308 y = m308   y := by kernel_rfl
noncomputable def r308 : F308 := m308  
theorem k308 : CK Tryz.prog (g308 r308) := fn0 (s308 ) (fnsL_ok trivial) rfl mixed (by kernel_rfl) (by kernel_rfl) (by kernel_rfl)
@[reducible] def i255 : List Ty := [.p [.int .i64, .int .i64, .int .i64, .int .i64, .int .i64, .bool, .sl false .i, .sl true .i]]
@[reducible] def o255 : List Ty := [.v (.bool), .v (.sl true .i), .v (.bool)]
abbrev R255 := Option (PTup o255 × BTup i255)
abbrev F255 := PTup i255 → R255
abbrev g255 (c : F255) : Nat × Tev.Fn := (255, ⟨i255, o255, c, .nor⟩)
noncomputable def m255 (c308 : F308)  (y : PTup i255) : Option (PTup o255 × BTup i255) :=
  bif (ltI (Int.tmod y.1.1 (64 : Int)) (48 : Int)) then ((c308 (((wI (y.1.1 + (1 : Int))), y.1.2), ((Int.tmod y.1.1 (64 : Int)), ()))).bind fun r0 =>
   bif (leN ((List.length y.1.2.2.2.2.2.2.2.1) + (List.length (r0.1.1 :: []))) (E.most .i)) then (some ((false, ([], (false, ()))), (((wI (y.1.1 + (1 : Int))), (y.1.2.1, (y.1.2.2.1, (y.1.2.2.2.1, (y.1.2.2.2.2.1, (y.1.2.2.2.2.2.1, (y.1.2.2.2.2.2.2.1, ((y.1.2.2.2.2.2.2.2.1 ++ (r0.1.1 :: [])), ())))))))), ())))
   else none)
  else bif (eqI (Int.tmod y.1.1 (64 : Int)) (48 : Int)) then (some ((true, (y.1.2.2.2.2.2.2.2.1, ((ltI (127 : Int) y.1.2.1), ()))), (((wI (y.1.1 + (1 : Int))), (y.1.2.1, (y.1.2.2.1, (y.1.2.2.2.1, (y.1.2.2.2.2.1, (true, (y.1.2.2.2.2.2.2.1, ([], ())))))))), ())))
  else bif (eqI (Int.tmod y.1.1 (64 : Int)) (63 : Int)) then (some ((false, ([], (false, ()))), (((wI (y.1.1 + (1 : Int))), (y.1.2.1, (y.1.2.2.1, (y.1.2.2.2.1, (y.1.2.2.2.2.1, (false, y.1.2.2.2.2.2.2)))))), ())))
  else some ((false, ([], (false, ()))), (((wI (y.1.1 + (1 : Int))), y.1.2), ()))
noncomputable def E255 (c308 : F308) := mkE [g308 c308]
theorem s255 (c308 : F308)  (y) : tevF (E255 c308 ) Tryz.f255 i255 o255 y = m255 c308  y := by kernel_rfl
noncomputable def r255 : F255 := m255 r308 
theorem k255 : CK Tryz.prog (g255 r255) := fn0 (s255 r308) (fnsL_ok ⟨k308, trivial⟩) rfl mixed (by kernel_rfl) (by kernel_rfl) (by kernel_rfl)
@[reducible] def i217 : List Ty := [.p q12, .v (.int .i64)]
@[reducible] def o217 : List Ty := [.v (.bool)]
abbrev R217 := Option (PTup o217 × BTup i217)
abbrev F217 := PTup i217 → R217
abbrev g217 (c : F217) : Nat × Tev.Fn := (217, ⟨i217, o217, c, .nor⟩)
noncomputable def m217 (c255 : F255) (c285 : F285) (c284 : F284)  (y : PTup i217) : Option (PTup o217 × BTup i217) :=
  let a0 := y.1; let a1 := a0.2; let a2 := a1.2; let a3 := a2.2; let a4 := a3.2; let a5 := a4.2; let a6 := a5.2; let a7 := a6.2; let a8 := a7.2.2; (c284 ((a7.2.1, (a8.1, ())), (a0.1, ()))).bind fun r0 =>
  bif r0.1.2.1 then ((c285 ((a0.1, (a1.1, (a2.1, (a3.1, (a4.1, (a5.1, (a6.1, (a7.1, ())))))))), r0.1.1.2)).bind fun r1 =>
   some ((true, ()), ((r1.2.1.1, (r1.2.1.2.1, (r1.2.1.2.2.1, (r1.2.1.2.2.2.1, (r1.2.1.2.2.2.2.1, (r1.2.1.2.2.2.2.2.1, (r1.2.1.2.2.2.2.2.2.1, (a7.1, (r0.2.1.1, (r0.2.1.2.1, a8.2)))))))))), ())))
  else bif (leI (mnI y.2.1 (20000 : Int)) a0.1) then (some ((false, ()), ((a0.1, (a1.1, (a2.1, (a3.1, (a4.1, (a5.1, (a6.1, (a7.1, (r0.2.1.1, (r0.2.1.2.1, a8.2)))))))))), ())))
  else (c255 ((a0.1, (a1.1, (a2.1, (a3.1, (a4.1, (a5.1, (a6.1, (a7.1, ())))))))), ())).bind fun r1 =>
  bif r1.1.1 then (bif (leN ((List.length a8.2.1) + (List.length (r1.1.2.1 :: []))) (E.most .n)) then (some ((true, ()), ((r1.2.1.1, (r1.2.1.2.1, (r1.2.1.2.2.1, (r1.2.1.2.2.2.1, (r1.2.1.2.2.2.2.1, (r1.2.1.2.2.2.2.2.1, (a6.1, (r1.2.1.2.2.2.2.2.2.2.1, (r0.2.1.1, (r0.2.1.2.1, ((a8.2.1 ++ (r1.1.2.1 :: [])), ()))))))))))), ())))
   else none)
  else some ((true, ()), ((r1.2.1.1, (r1.2.1.2.1, (r1.2.1.2.2.1, (r1.2.1.2.2.2.1, (r1.2.1.2.2.2.2.1, (r1.2.1.2.2.2.2.2.1, (a6.1, (r1.2.1.2.2.2.2.2.2.2.1, (r0.2.1.1, (r0.2.1.2.1, a8.2)))))))))), ()))
noncomputable def E217 (c255 : F255) (c285 : F285) (c284 : F284) := mkE [g255 c255, g285 c285, g284 c284]
theorem s217 (c255 : F255) (c285 : F285) (c284 : F284)  (y) : tevF (E217 c255 c285 c284 ) Tryz.f217 i217 o217 y = m217 c255 c285 c284  y := by kernel_rfl
noncomputable def r217 : F217 := m217 r255 r285 r284 
theorem k217 : CK Tryz.prog (g217 r217) := fn0 (s217 r255 r285 r284) (fnsL_ok ⟨k255, k285, k284, trivial⟩) rfl mixed (by kernel_rfl) (by kernel_rfl) (by kernel_rfl)
@[reducible] def i160 : List Ty := [.p q12, .v (.int .i64)]
@[reducible] def o160 : List Ty := []
abbrev R160 := Option (PTup o160 × BTup i160)
abbrev F160 := PTup i160 → R160
abbrev g160 (c : F160) : Nat × Tev.Fn := (160, ⟨i160, o160, c, .nor⟩)
@[reducible] def lc160_0 : List Ty := [.v (.int .i64)]
@[reducible] def lb160_0 : List Ty := [.p q12]
@[reducible] def lv160_0 : List Ty := []
@[reducible] def lr160_0 : List Ty := []
abbrev R160_0 := Option (Sum (PTup lv160_0) (PTup lr160_0) × BTup lb160_0)
abbrev B160_0 := PTup lb160_0 → PTup lv160_0 → R160_0
abbrev A160_0 := PTup lc160_0 → B160_0
noncomputable def w160_0 (c217 : F217)  (again : B160_0) (x : PTup lc160_0) (y : PTup lb160_0) (z : PTup lv160_0) : R160_0 :=
  (c217 (y.1, x)).bind fun r0 =>
  bif r0.1.1 then (again (r0.2.1, ()) ())
  else some ((Sum.inl ()), (r0.2.1, ()))
noncomputable def e160_0 (l : A160_0) : LoopE := ⟨[1], lc160_0, [0], lb160_0, [], lv160_0, [], lr160_0, 0, [], l⟩
noncomputable def m160 (c217 : F217) (l0 : A160_0) (y : PTup i160) : Option (PTup o160 × BTup i160) :=
  (l0 y.2 (y.1, ()) ()).bind fun r0 =>
  sumElim r0.1 (fun r1 => some ((), (r0.2.1, ())))
  (fun r1 => some ((), (r0.2.1, ())))
noncomputable def E160 (c217 : F217) (l0 : A160_0) : CEnv := ⟨⟨Tryz.prog, fnsL [g217 c217]⟩, loopsL [(0, e160_0 l0)]⟩
theorem t160_0 (c217 : F217) (l0 : A160_0) (again) (x y z) : loopRound (E160 c217 l0) (loopAt (bodyOf Tryz.f160) 0) (e160_0 l0) Tryz.f160.ntmps again x y z = w160_0 c217  again x y z := by kernel_rfl
noncomputable def n160_0 (c217 : F217)  : Nat → A160_0
  | 0, _, _, _ => none
  | n + 1, x, y, z => w160_0 c217  (fun y z => n160_0 c217  n x y z) x y z
theorem s160 (c217 : F217) (l0 : A160_0) (y) : tevF (E160 c217 l0) Tryz.f160 i160 o160 y = m160 c217 l0 y := by kernel_rfl
noncomputable def L160_0 : A160_0 := n160_0 r217  fuel
noncomputable def r160 : F160 := m160 r217 L160_0
theorem k160 : CK Tryz.prog (g160 r160) := by
  have hE : ∀ g f, (E160 r217 L160_0).env.fns g = some f → CallOk Tryz.prog g f := fnsL_ok ⟨k217, trivial⟩
  have h0 : LoopOk Tryz.prog Tryz.f160.ntmps (loopAt (bodyOf Tryz.f160) 0) (e160_0 L160_0) := lp_ok (E := E160 r217 L160_0) rfl hE mixed (AllLoops.of_list (l := []) (by kernel_rfl) trivial) (n160_0 r217 ) (fun _ _ _ => rfl) (fun n x y z => t160_0 r217 L160_0 _ x y z) rfl
  exact fn_ok (E := E160 r217 L160_0) rfl hE mixed (by kernel_rfl) (by kernel_rfl) (AllLoops.of_list (l := [(loopAt (bodyOf Tryz.f160) 0)]) (by kernel_rfl) (.one (by kernel_rfl) h0 trivial)) (s160 r217 L160_0)
@[reducible] def i286 : List Ty := [.a q13, .v (.int .i64), .v (.int .i64)]
@[reducible] def o286 : List Ty := [.a q13]
abbrev R286 := Option (PTup o286 × BTup i286)
abbrev F286 := PTup i286 → R286
abbrev g286 (c : F286) : Nat × Tev.Fn := (286, ⟨i286, o286, c, .nor⟩)
noncomputable def m286 (c175 : F175) (c294 : F294)  (y : PTup i286) : Option (PTup o286 × BTup i286) :=
  (c175 (y.1, ())).bind fun r0 =>
  bif (!r0.1.1) then (some ((y.1, ()), ()))
  else (c294 y.2.2).bind fun r1 =>
  bif (eqI y.2.1 (0 : Int)) then (some (((y.1.1, (r1.1.1, y.1.2.2)), ()), ()))
  else bif (eqI y.2.1 (1 : Int)) then (some (((y.1.1, (y.1.2.1, (y.1.2.2.1, (y.1.2.2.2.1, ((Int.tmod r1.1.1 (32 : Int)), y.1.2.2.2.2.2))))), ()), ()))
  else bif (eqI y.2.1 (2 : Int)) then (bif y.1.2.2.2.2.2.2.1 then (some (((y.1.1, (y.1.2.1, (y.1.2.2.1, (y.1.2.2.2.1, (y.1.2.2.2.2.1, ((eqI (Int.tmod r1.1.1 (2 : Int)) (1 : Int)), ((eqI (Int.tmod r1.1.1 (2 : Int)) (1 : Int)), ()))))))), ()), ()))
   else some (((y.1.1, (y.1.2.1, (y.1.2.2.1, (y.1.2.2.2.1, (y.1.2.2.2.2.1, ((eqI (Int.tmod r1.1.1 (2 : Int)) (1 : Int)), (false, ()))))))), ()), ()))
  else bif (eqI y.2.1 (3 : Int)) then (some (((y.1.1, (y.1.2.1, (y.1.2.2.1, (y.1.2.2.2.1, (y.1.2.2.2.2.1, (y.1.2.2.2.2.2.1, (false, ()))))))), ()), ()))
  else some ((y.1, ()), ())
noncomputable def E286 (c175 : F175) (c294 : F294) := mkE [g175 c175, g294 c294]
theorem s286 (c175 : F175) (c294 : F294)  (y) : tevF (E286 c175 c294 ) Tryz.f286 i286 o286 y = m286 c175 c294  y := by kernel_rfl
noncomputable def r286 : F286 := m286 r175 r294 
theorem k286 : CK Tryz.prog (g286 r286) := fn0 (s286 r175 r294) (fnsL_ok ⟨k175, k294, trivial⟩) rfl mixed (by kernel_rfl) (by kernel_rfl) (by kernel_rfl)
@[reducible] def i256 : List Ty := [.p q13]
@[reducible] def o256 : List Ty := [.v (.int .i64), .v (.bool)]
abbrev R256 := Option (PTup o256 × BTup i256)
abbrev F256 := PTup i256 → R256
abbrev g256 (c : F256) : Nat × Tev.Fn := (256, ⟨i256, o256, c, .nor⟩)
noncomputable def m256   (y : PTup i256) : Option (PTup o256 × BTup i256) :=
  let a0 := y.1; let a1 := a0.1; let a2 := a0.2; let a3 := a2.1; let a4 := a2.2; let a5 := a4.1; let a6 := a4.2; let a7 := a6.1; let a8 := a6.2; let a9 := a8.1; let a10 := a8.2; let a11 := a10.1; let X0 : R256 := bif (! (eqI (Int.tmod a1 (16 : Int)) (15 : Int))) then (some (((0 : Int), ((eqI (Int.tmod a1 (16 : Int)) (15 : Int)), ())), (((wI (a1 + (1 : Int))), (a3, (a3, ((wI ((1 : Int) - a7)), a8)))), ()))) else bif (eqI a9 (0 : Int)) then (some (((0 : Int), ((eqI (Int.tmod a1 (16 : Int)) (15 : Int)), ())), (((wI (a1 + (1 : Int))), (a3, (a3, ((wI ((1 : Int) - a7)), a8)))), ()))) else some (((wI ((8 : Int) * (wI ((1 : Int) - a7)))), (true, ())), (((wI (a1 + (1 : Int))), (a3, (a3, ((wI ((1 : Int) - a7)), a8)))), ())); let X1 : R256 := bif (! (eqI (Int.tmod a1 (16 : Int)) (15 : Int))) then (some (((0 : Int), ((eqI (Int.tmod a1 (16 : Int)) (15 : Int)), ())), (((wI (a1 + (1 : Int))), (a3, ((wI (a5 - (1 : Int))), a6))), ()))) else bif (eqI a9 (0 : Int)) then (some (((0 : Int), ((eqI (Int.tmod a1 (16 : Int)) (15 : Int)), ())), (((wI (a1 + (1 : Int))), (a3, ((wI (a5 - (1 : Int))), a6))), ()))) else some (((wI ((8 : Int) * a7)), (true, ())), (((wI (a1 + (1 : Int))), (a3, ((wI (a5 - (1 : Int))), a6))), ())); let X2 : R256 := bif (! (eqI (Int.tmod a1 (16 : Int)) (15 : Int))) then (some (((0 : Int), ((eqI (Int.tmod a1 (16 : Int)) (15 : Int)), ())), (((wI (a1 + (1 : Int))), (a3, (a3, a6))), ()))) else bif (eqI a9 (0 : Int)) then (some (((0 : Int), ((eqI (Int.tmod a1 (16 : Int)) (15 : Int)), ())), (((wI (a1 + (1 : Int))), (a3, (a3, a6))), ()))) else some (((wI ((8 : Int) * a7)), (true, ())), (((wI (a1 + (1 : Int))), (a3, (a3, a6))), ())); let X3 : R256 := some (((0 : Int), ((eqI (Int.tmod a1 (16 : Int)) (15 : Int)), ())), (((wI (a1 + (1 : Int))), (a3, ((wI (a5 - (1 : Int))), (a7, ((wI (a9 - (1 : Int))), (a11, (a11, ()))))))), ())); let X4 : R256 := some (((0 : Int), ((eqI (Int.tmod a1 (16 : Int)) (15 : Int)), ())), (((wI (a1 + (1 : Int))), (a3, (a3, ((wI ((1 : Int) - a7)), ((wI (a9 - (1 : Int))), (a11, (a11, ()))))))), ())); let X5 : R256 := some (((0 : Int), ((eqI (Int.tmod a1 (16 : Int)) (15 : Int)), ())), (((wI (a1 + (1 : Int))), (a3, ((wI (a5 - (1 : Int))), (a7, ((wI (a9 - (1 : Int))), (a11, (false, ()))))))), ())); let X6 : R256 := some (((0 : Int), ((eqI (Int.tmod a1 (16 : Int)) (15 : Int)), ())), (((wI (a1 + (1 : Int))), (a3, ((wI (a5 - (1 : Int))), (a7, ((wI (a9 - (1 : Int))), (a11, (true, ()))))))), ())); let X7 : R256 := some (((0 : Int), ((eqI (Int.tmod a1 (16 : Int)) (15 : Int)), ())), (((wI (a1 + (1 : Int))), (a3, (a3, ((wI ((1 : Int) - a7)), ((wI (a9 - (1 : Int))), (a11, (false, ()))))))), ())); let X8 : R256 := some (((0 : Int), ((eqI (Int.tmod a1 (16 : Int)) (15 : Int)), ())), (((wI (a1 + (1 : Int))), (a3, (a3, ((wI ((1 : Int) - a7)), ((wI (a9 - (1 : Int))), (a11, (true, ()))))))), ())); let X9 : R256 := some (((0 : Int), ((eqI (Int.tmod a1 (16 : Int)) (15 : Int)), ())), (((wI (a1 + (1 : Int))), (a3, (a3, (a7, ((wI (a9 - (1 : Int))), (a11, (a11, ()))))))), ())); let X10 : R256 := some (((0 : Int), ((eqI (Int.tmod a1 (16 : Int)) (15 : Int)), ())), (((wI (a1 + (1 : Int))), (a3, (a3, (a7, ((wI (a9 - (1 : Int))), (a11, (false, ()))))))), ())); let X11 : R256 := some (((0 : Int), ((eqI (Int.tmod a1 (16 : Int)) (15 : Int)), ())), (((wI (a1 + (1 : Int))), (a3, (a3, (a7, ((wI (a9 - (1 : Int))), (a11, (true, ()))))))), ())); bif (eqI a5 (0 : Int)) then (bif (ltI (0 : Int) a9) then (bif (eqI (Int.tmod a1 (32 : Int)) (0 : Int)) then (bif (ltI (0 : Int) a9) then (bif a10.2.1 then (bif (! (eqI (Int.tmod a1 (16 : Int)) (15 : Int))) then X8 else bif (eqI (wI (a9 - (1 : Int))) (0 : Int)) then X8 else some (((wI ((8 : Int) * (wI ((1 : Int) - a7)))), (true, ())), (((wI (a1 + (1 : Int))), (a3, (a3, ((wI ((1 : Int) - a7)), ((wI (a9 - (1 : Int))), (a11, (true, ()))))))), ()))) else bif (eqI (wI (a9 - (1 : Int))) (0 : Int)) then (bif (! (eqI (Int.tmod a1 (16 : Int)) (15 : Int))) then X4 else bif (eqI (wI (a9 - (1 : Int))) (0 : Int)) then X4 else some (((wI ((8 : Int) * (wI ((1 : Int) - a7)))), (true, ())), (((wI (a1 + (1 : Int))), (a3, (a3, ((wI ((1 : Int) - a7)), ((wI (a9 - (1 : Int))), (a11, (a11, ()))))))), ()))) else bif (! (eqI (Int.tmod a1 (16 : Int)) (15 : Int))) then X7 else bif (eqI (wI (a9 - (1 : Int))) (0 : Int)) then X7 else some (((wI ((8 : Int) * (wI ((1 : Int) - a7)))), (true, ())), (((wI (a1 + (1 : Int))), (a3, (a3, ((wI ((1 : Int) - a7)), ((wI (a9 - (1 : Int))), (a11, (false, ()))))))), ()))) else X0) else X0) else bif (eqI (Int.tmod a1 (32 : Int)) (0 : Int)) then (bif (ltI (0 : Int) a9) then (bif a10.2.1 then (bif (! (eqI (Int.tmod a1 (16 : Int)) (15 : Int))) then X11 else bif (eqI (wI (a9 - (1 : Int))) (0 : Int)) then X11 else some (((wI ((8 : Int) * a7)), (true, ())), (((wI (a1 + (1 : Int))), (a3, (a3, (a7, ((wI (a9 - (1 : Int))), (a11, (true, ()))))))), ()))) else bif (eqI (wI (a9 - (1 : Int))) (0 : Int)) then (bif (! (eqI (Int.tmod a1 (16 : Int)) (15 : Int))) then X9 else bif (eqI (wI (a9 - (1 : Int))) (0 : Int)) then X9 else some (((wI ((8 : Int) * a7)), (true, ())), (((wI (a1 + (1 : Int))), (a3, (a3, (a7, ((wI (a9 - (1 : Int))), (a11, (a11, ()))))))), ()))) else bif (! (eqI (Int.tmod a1 (16 : Int)) (15 : Int))) then X10 else bif (eqI (wI (a9 - (1 : Int))) (0 : Int)) then X10 else some (((wI ((8 : Int) * a7)), (true, ())), (((wI (a1 + (1 : Int))), (a3, (a3, (a7, ((wI (a9 - (1 : Int))), (a11, (false, ()))))))), ()))) else X2) else X2) else bif (eqI (Int.tmod a1 (32 : Int)) (0 : Int)) then (bif (ltI (0 : Int) a9) then (bif a10.2.1 then (bif (! (eqI (Int.tmod a1 (16 : Int)) (15 : Int))) then X6 else bif (eqI (wI (a9 - (1 : Int))) (0 : Int)) then X6 else some (((wI ((8 : Int) * a7)), (true, ())), (((wI (a1 + (1 : Int))), (a3, ((wI (a5 - (1 : Int))), (a7, ((wI (a9 - (1 : Int))), (a11, (true, ()))))))), ()))) else bif (eqI (wI (a9 - (1 : Int))) (0 : Int)) then (bif (! (eqI (Int.tmod a1 (16 : Int)) (15 : Int))) then X3 else bif (eqI (wI (a9 - (1 : Int))) (0 : Int)) then X3 else some (((wI ((8 : Int) * a7)), (true, ())), (((wI (a1 + (1 : Int))), (a3, ((wI (a5 - (1 : Int))), (a7, ((wI (a9 - (1 : Int))), (a11, (a11, ()))))))), ()))) else bif (! (eqI (Int.tmod a1 (16 : Int)) (15 : Int))) then X5 else bif (eqI (wI (a9 - (1 : Int))) (0 : Int)) then X5 else some (((wI ((8 : Int) * a7)), (true, ())), (((wI (a1 + (1 : Int))), (a3, ((wI (a5 - (1 : Int))), (a7, ((wI (a9 - (1 : Int))), (a11, (false, ()))))))), ()))) else X1) else X1
noncomputable def E256  := mkE []
theorem s256   (y) : tevF (E256  ) Tryz.f256 i256 o256 y = m256   y := by kernel_rfl
noncomputable def r256 : F256 := m256  
theorem k256 : CK Tryz.prog (g256 r256) := fn0 (s256 ) (fnsL_ok trivial) rfl mixed (by kernel_rfl) (by kernel_rfl) (by kernel_rfl)
@[reducible] def i218 : List Ty := [.p q14, .v (.int .i64)]
@[reducible] def o218 : List Ty := [.v (.bool)]
abbrev R218 := Option (PTup o218 × BTup i218)
abbrev F218 := PTup i218 → R218
abbrev g218 (c : F218) : Nat × Tev.Fn := (218, ⟨i218, o218, c, .nor⟩)
noncomputable def m218 (c256 : F256) (c284 : F284) (c286 : F286)  (y : PTup i218) : Option (PTup o218 × BTup i218) :=
  (c284 ((y.1.2.2.2.2.2.2.2.1, (y.1.2.2.2.2.2.2.2.2.1, ())), (y.1.1, ()))).bind fun r0 =>
  bif r0.1.2.1 then ((c286 ((y.1.1, (y.1.2.1, (y.1.2.2.1, (y.1.2.2.2.1, (y.1.2.2.2.2.1, (y.1.2.2.2.2.2.1, (y.1.2.2.2.2.2.2.1, ()))))))), r0.1.1.2)).bind fun r1 =>
   some ((true, ()), ((r1.1.1.1, (r1.1.1.2.1, (r1.1.1.2.2.1, (r1.1.1.2.2.2.1, (r1.1.1.2.2.2.2.1, (r1.1.1.2.2.2.2.2.1, (r1.1.1.2.2.2.2.2.2.1, (r0.2.1.1, (r0.2.1.2.1, y.1.2.2.2.2.2.2.2.2.2))))))))), ())))
  else bif (leI (mnI y.2.1 (20000 : Int)) y.1.1) then (some ((false, ()), ((y.1.1, (y.1.2.1, (y.1.2.2.1, (y.1.2.2.2.1, (y.1.2.2.2.2.1, (y.1.2.2.2.2.2.1, (y.1.2.2.2.2.2.2.1, (r0.2.1.1, (r0.2.1.2.1, y.1.2.2.2.2.2.2.2.2.2))))))))), ())))
  else (c256 ((y.1.1, (y.1.2.1, (y.1.2.2.1, (y.1.2.2.2.1, (y.1.2.2.2.2.1, (y.1.2.2.2.2.2.1, (y.1.2.2.2.2.2.2.1, ()))))))), ())).bind fun r1 =>
  bif r1.1.2.1 then (bif (leN ((List.length y.1.2.2.2.2.2.2.2.2.2.1) + (List.length (r1.1.1 :: []))) (E.most .i)) then (some ((true, ()), ((r1.2.1.1, (r1.2.1.2.1, (r1.2.1.2.2.1, (r1.2.1.2.2.2.1, (r1.2.1.2.2.2.2.1, (r1.2.1.2.2.2.2.2.1, (r1.2.1.2.2.2.2.2.2.1, (r0.2.1.1, (r0.2.1.2.1, ((y.1.2.2.2.2.2.2.2.2.2.1 ++ (r1.1.1 :: [])), ())))))))))), ())))
   else none)
  else some ((true, ()), ((r1.2.1.1, (r1.2.1.2.1, (r1.2.1.2.2.1, (r1.2.1.2.2.2.1, (r1.2.1.2.2.2.2.1, (r1.2.1.2.2.2.2.2.1, (r1.2.1.2.2.2.2.2.2.1, (r0.2.1.1, (r0.2.1.2.1, y.1.2.2.2.2.2.2.2.2.2))))))))), ()))
noncomputable def E218 (c256 : F256) (c284 : F284) (c286 : F286) := mkE [g256 c256, g284 c284, g286 c286]
theorem s218 (c256 : F256) (c284 : F284) (c286 : F286)  (y) : tevF (E218 c256 c284 c286 ) Tryz.f218 i218 o218 y = m218 c256 c284 c286  y := by kernel_rfl
noncomputable def r218 : F218 := m218 r256 r284 r286 
theorem k218 : CK Tryz.prog (g218 r218) := fn0 (s218 r256 r284 r286) (fnsL_ok ⟨k256, k284, k286, trivial⟩) rfl mixed (by kernel_rfl) (by kernel_rfl) (by kernel_rfl)
@[reducible] def i161 : List Ty := [.p q14, .v (.int .i64)]
@[reducible] def o161 : List Ty := []
abbrev R161 := Option (PTup o161 × BTup i161)
abbrev F161 := PTup i161 → R161
abbrev g161 (c : F161) : Nat × Tev.Fn := (161, ⟨i161, o161, c, .nor⟩)
@[reducible] def lc161_0 : List Ty := [.v (.int .i64)]
@[reducible] def lb161_0 : List Ty := [.p q14]
@[reducible] def lv161_0 : List Ty := []
@[reducible] def lr161_0 : List Ty := []
abbrev R161_0 := Option (Sum (PTup lv161_0) (PTup lr161_0) × BTup lb161_0)
abbrev B161_0 := PTup lb161_0 → PTup lv161_0 → R161_0
abbrev A161_0 := PTup lc161_0 → B161_0
noncomputable def w161_0 (c218 : F218)  (again : B161_0) (x : PTup lc161_0) (y : PTup lb161_0) (z : PTup lv161_0) : R161_0 :=
  (c218 (y.1, x)).bind fun r0 =>
  bif r0.1.1 then (again (r0.2.1, ()) ())
  else some ((Sum.inl ()), (r0.2.1, ()))
noncomputable def e161_0 (l : A161_0) : LoopE := ⟨[1], lc161_0, [0], lb161_0, [], lv161_0, [], lr161_0, 0, [], l⟩
noncomputable def m161 (c218 : F218) (l0 : A161_0) (y : PTup i161) : Option (PTup o161 × BTup i161) :=
  (l0 y.2 (y.1, ()) ()).bind fun r0 =>
  sumElim r0.1 (fun r1 => some ((), (r0.2.1, ())))
  (fun r1 => some ((), (r0.2.1, ())))
noncomputable def E161 (c218 : F218) (l0 : A161_0) : CEnv := ⟨⟨Tryz.prog, fnsL [g218 c218]⟩, loopsL [(0, e161_0 l0)]⟩
theorem t161_0 (c218 : F218) (l0 : A161_0) (again) (x y z) : loopRound (E161 c218 l0) (loopAt (bodyOf Tryz.f161) 0) (e161_0 l0) Tryz.f161.ntmps again x y z = w161_0 c218  again x y z := by kernel_rfl
noncomputable def n161_0 (c218 : F218)  : Nat → A161_0
  | 0, _, _, _ => none
  | n + 1, x, y, z => w161_0 c218  (fun y z => n161_0 c218  n x y z) x y z
theorem s161 (c218 : F218) (l0 : A161_0) (y) : tevF (E161 c218 l0) Tryz.f161 i161 o161 y = m161 c218 l0 y := by kernel_rfl
noncomputable def L161_0 : A161_0 := n161_0 r218  fuel
noncomputable def r161 : F161 := m161 r218 L161_0
theorem k161 : CK Tryz.prog (g161 r161) := by
  have hE : ∀ g f, (E161 r218 L161_0).env.fns g = some f → CallOk Tryz.prog g f := fnsL_ok ⟨k218, trivial⟩
  have h0 : LoopOk Tryz.prog Tryz.f161.ntmps (loopAt (bodyOf Tryz.f161) 0) (e161_0 L161_0) := lp_ok (E := E161 r218 L161_0) rfl hE mixed (AllLoops.of_list (l := []) (by kernel_rfl) trivial) (n161_0 r218 ) (fun _ _ _ => rfl) (fun n x y z => t161_0 r218 L161_0 _ x y z) rfl
  exact fn_ok (E := E161 r218 L161_0) rfl hE mixed (by kernel_rfl) (by kernel_rfl) (AllLoops.of_list (l := [(loopAt (bodyOf Tryz.f161) 0)]) (by kernel_rfl) (.one (by kernel_rfl) h0 trivial)) (s161 r218 L161_0)
@[reducible] def i70 : List Ty := [.p [.sl false .n, .sl false .i, .sl false .i, .int .i64, .int .i64, .int .i64, .int .i64, .int .i64, .bool, .bool, .bool, .bool, .bool, .int .i64, .int .i64, .bool, .int .i64, .bool, .int .i64, .int .i64, .sl false .i, .int .i64, .int .i64, .int .i64, .int .i64, .int .i64, .bool, .sl true .i, .sl true .i, .int .i64, .sl true .t, .sl true .n, .int .i64, .int .i64, .int .i64, .int .i64, .int .i64, .bool, .bool, .int .i64, .sl true .t, .sl true .i]]
@[reducible] def o70 : List Ty := []
abbrev R70 := Option (PTup o70 × BTup i70)
abbrev F70 := PTup i70 → R70
abbrev g70 (c : F70) : Nat × Tev.Fn := (70, ⟨i70, o70, c, .nor⟩)
noncomputable def m70 (c160 : F160) (c161 : F161)  (y : PTup i70) : Option (PTup o70 × BTup i70) :=
  let a0 := y.1; let a1 := a0.2; let a2 := a1.2; let a3 := a2.2; let a4 := a3.2; let a5 := a4.2; let a6 := a5.2; let a7 := a6.2; let a8 := a7.2; let a9 := a8.2; let a10 := a9.2; let a11 := a10.2; let a12 := a11.2; let a13 := a12.2; let a14 := a13.2; let a15 := a14.2; let a16 := a15.2; let a17 := a16.2; let a18 := a17.2; let a19 := a18.2; let a20 := a19.2; let a21 := a20.2; let a22 := a21.2; let a23 := a22.2; let a24 := a23.2.2; let a25 := a24.2.2; (c160 ((a21.1, (a22.1, (a23.1, (a23.2.1, (a24.1, (a24.2.1, (a25.1, (a25.2.1, (a25.2.2.1, (a25.2.2.2.1, (a25.2.2.2.2.1, ()))))))))))), (a14.1, ()))).bind fun r0 =>
  (c161 (a25.2.2.2.2.2, (a14.1, ()))).bind fun r1 =>
  some ((), ((a0.1, (a1.1, (a2.1, (a3.1, (a4.1, (a5.1, (a6.1, (a7.1, (a8.1, (a9.1, (a10.1, (a11.1, (a12.1, (a13.1, (a14.1, (a15.1, (a16.1, (a17.1, (a18.1, (a19.1, (a20.1, (r0.2.1.1, (r0.2.1.2.1, (r0.2.1.2.2.1, (r0.2.1.2.2.2.1, (r0.2.1.2.2.2.2.1, (r0.2.1.2.2.2.2.2.1, (r0.2.1.2.2.2.2.2.2.1, (r0.2.1.2.2.2.2.2.2.2.1, (r0.2.1.2.2.2.2.2.2.2.2.1, (r0.2.1.2.2.2.2.2.2.2.2.2.1, (r0.2.1.2.2.2.2.2.2.2.2.2.2.1, r1.2.1)))))))))))))))))))))))))))))))), ()))
noncomputable def E70 (c160 : F160) (c161 : F161) := mkE [g160 c160, g161 c161]
theorem s70 (c160 : F160) (c161 : F161)  (y) : tevF (E70 c160 c161 ) Tryz.f70 i70 o70 y = m70 c160 c161  y := by kernel_rfl
noncomputable def r70 : F70 := m70 r160 r161 
theorem k70 : CK Tryz.prog (g70 r70) := fn0 (s70 r160 r161) (fnsL_ok ⟨k160, k161, trivial⟩) rfl mixed (by kernel_rfl) (by kernel_rfl) (by kernel_rfl)
@[reducible] def i18 : List Ty := [.a q6]
@[reducible] def o18 : List Ty := [.a q15]
abbrev R18 := Option (PTup o18 × BTup i18)
abbrev F18 := PTup i18 → R18
abbrev g18 (c : F18) : Nat × Tev.Fn := (18, ⟨i18, o18, c, .nor⟩)
noncomputable def m18 (c70 : F70) (c69 : F69) (c68 : F68)  (y : PTup i18) : Option (PTup o18 × BTup i18) :=
  (c68 (y.1, ())).bind fun r0 =>
  (c69 (y.1, ())).bind fun r1 =>
  bif r1.1.1 then ((c70 (r0.1.1, ())).bind fun r2 => let f0 := r2.2; let f1 := f0.1; let f2 := f1.2; let f3 := f2.2; let f4 := f3.2; let f5 := f4.2; let f6 := f5.2; let f7 := f6.2; let f8 := f7.2; let f9 := f8.2; let f10 := f9.2.2; let f11 := f10.2; let f12 := f11.2.2; let f13 := f12.2.2; some (((r0.1.1.1, (r0.1.1.2.1, (r0.1.1.2.2.1, (f4.1, (f5.1, (f6.1, (f7.1, (f8.1, (f9.1, (f9.2.1, (f10.1, (f11.1, (f11.2.1, (f12.1, (f12.2.1, (f13.1, (f13.2.1, (f13.2.2.1, (f13.2.2.2.1, (f13.2.2.2.2.1, (r0.1.1.2.2.2.2.2.2.2.2.2.2.2.2.2.2.2.2.2.2.2.2.1, f13.2.2.2.2.2.2))))))))))))))))))))), ()), ()))
  else some ((r0.1.1, ()), ())
noncomputable def E18 (c70 : F70) (c69 : F69) (c68 : F68) := mkE [g70 c70, g69 c69, g68 c68]
theorem s18 (c70 : F70) (c69 : F69) (c68 : F68)  (y) : tevF (E18 c70 c69 c68 ) Tryz.f18 i18 o18 y = m18 c70 c69 c68  y := by kernel_rfl
noncomputable def r18 : F18 := m18 r70 r69 r68 
theorem k18 : CK Tryz.prog (g18 r18) := fn0 (s18 r70 r69 r68) (fnsL_ok ⟨k70, k69, k68, trivial⟩) rfl mixed (by kernel_rfl) (by kernel_rfl) (by kernel_rfl)
@[reducible] def i38 : List Ty := [.a q6, .v (.int .i64)]
@[reducible] def o38 : List Ty := [.a q15, .v (.bool)]
abbrev R38 := Option (PTup o38 × BTup i38)
abbrev F38 := PTup i38 → R38
abbrev g38 (c : F38) : Nat × Tev.Fn := (38, ⟨i38, o38, c, .nor⟩)
noncomputable def m38 (c29 : F29) (c59 : F59) (c111 : F111) (c112 : F112) (c58 : F58)  (y : PTup i38) : Option (PTup o38 × BTup i38) :=
  (c59 (y.1, ())).bind fun r0 =>
  bif (!r0.1.1) then (some ((([], ([], ([], ((0 : Int), ((0 : Int), ((0 : Int), ((0 : Int), ((0 : Int), (false, (false, (false, (false, (false, ((0 : Int), ((0 : Int), (false, ((0 : Int), (false, ((0 : Int), ((0 : Int), ([], ((0 : Int), ((0 : Int), ((0 : Int), ((0 : Int), ((0 : Int), (false, ([], ([], ((0 : Int), ([], ([], ((0 : Int), ((0 : Int), ((0 : Int), ((0 : Int), ((0 : Int), (false, (false, ((0 : Int), ([], ([], ())))))))))))))))))))))))))))))))))))))))))), (false, ())), ()))
  else (c58 (y.1, ())).bind fun r1 => let d0 := r1.1; let d1 := d0.1; let d2 := d1.2; let d3 := d2.2; let d4 := d3.2; let d5 := d4.2; let d6 := d5.2; let d7 := d6.2; let d8 := d7.2; let d9 := d8.2; let d10 := d9.2; let d11 := d10.2; let d12 := d11.2; let d13 := d12.2; let d14 := d13.2; let d15 := d14.2; let d16 := d15.2; let d17 := d16.2; let d18 := d17.2; let d19 := d18.2; let d20 := d19.2; let d21 := d20.2; let d22 := d21.2; let d23 := d22.2; let d24 := d23.2; let d25 := d24.2; let d26 := d25.2; let d27 := d26.2; let d28 := d27.2; let d29 := d28.2; let d30 := d29.2.2; bif (eqI y.2.1 (0 : Int)) then ((c29 (y.1, ())).bind fun r2 =>
   some (r2.1, ()))
  else bif (eqI y.2.1 (1 : Int)) then ((c111 ((d22.1, (d23.1, (d24.1, (d25.1, (d26.1, (d27.1, (d28.1, (d29.1, (d29.2.1, (d30.1, (d30.2.1, ()))))))))))), (y.1.2.2.2.2.2.2.2.2.2.2.2.2.2.2.1, ()))).bind fun r2 =>
   some (((d1.1, (d2.1, (d3.1, (d4.1, (d5.1, (d6.1, (d7.1, (d8.1, (d9.1, (d10.1, (d11.1, (d12.1, (d13.1, (d14.1, (d15.1, (d16.1, (d17.1, (d18.1, (d19.1, (d20.1, (d21.1, (r2.1.1.1, (r2.1.1.2.1, (r2.1.1.2.2.1, (r2.1.1.2.2.2.1, (r2.1.1.2.2.2.2.1, (r2.1.1.2.2.2.2.2.1, (r2.1.1.2.2.2.2.2.2.1, (r2.1.1.2.2.2.2.2.2.2.1, (r2.1.1.2.2.2.2.2.2.2.2.1, (r2.1.1.2.2.2.2.2.2.2.2.2.1, (r2.1.1.2.2.2.2.2.2.2.2.2.2.1, d30.2.2)))))))))))))))))))))))))))))))), r2.1.2), ()))
  else bif (eqI y.2.1 (2 : Int)) then ((c112 (d30.2.2, (y.1.2.2.2.2.2.2.2.2.2.2.2.2.2.2.1, ()))).bind fun r2 =>
   some (((d1.1, (d2.1, (d3.1, (d4.1, (d5.1, (d6.1, (d7.1, (d8.1, (d9.1, (d10.1, (d11.1, (d12.1, (d13.1, (d14.1, (d15.1, (d16.1, (d17.1, (d18.1, (d19.1, (d20.1, (d21.1, (d22.1, (d23.1, (d24.1, (d25.1, (d26.1, (d27.1, (d28.1, (d29.1, (d29.2.1, (d30.1, (d30.2.1, r2.1.1)))))))))))))))))))))))))))))))), r2.1.2), ()))
  else some ((d1, (false, ())), ())
noncomputable def E38 (c29 : F29) (c59 : F59) (c111 : F111) (c112 : F112) (c58 : F58) := mkE [g29 c29, g59 c59, g111 c111, g112 c112, g58 c58]
theorem s38 (c29 : F29) (c59 : F59) (c111 : F111) (c112 : F112) (c58 : F58)  (y) : tevF (E38 c29 c59 c111 c112 c58 ) Tryz.f38 i38 o38 y = m38 c29 c59 c111 c112 c58  y := by kernel_rfl
noncomputable def r38 : F38 := m38 r29 r59 r111 r112 r58 
theorem k38 : CK Tryz.prog (g38 r38) := fn0 (s38 r29 r59 r111 r112 r58) (fnsL_ok ⟨k29, k59, k111, k112, k58, trivial⟩) rfl mixed (by kernel_rfl) (by kernel_rfl) (by kernel_rfl)
@[reducible] def i33 : List Ty := [.a q6]
@[reducible] def o33 : List Ty := [.v (.sl true .i)]
abbrev R33 := Option (PTup o33 × BTup i33)
abbrev F33 := PTup i33 → R33
abbrev g33 (c : F33) : Nat × Tev.Fn := (33, ⟨i33, o33, c, .nor⟩)
@[reducible] def lc33_0 : List Ty := []
@[reducible] def lb33_0 : List Ty := [.p q6]
@[reducible] def lv33_0 : List Ty := [.v (.sl true .i), .v (.int .i64)]
@[reducible] def lr33_0 : List Ty := []
abbrev R33_0 := Option (Sum (PTup lv33_0) (PTup lr33_0) × BTup lb33_0)
abbrev B33_0 := PTup lb33_0 → PTup lv33_0 → R33_0
abbrev A33_0 := PTup lc33_0 → B33_0
noncomputable def w33_0 (c38 : F38)  (again : B33_0) (x : PTup lc33_0) (y : PTup lb33_0) (z : PTup lv33_0) : R33_0 :=
  bif (ltI z.2.1 (3 : Int)) then ((c38 (y.1, z.2)).bind fun r0 =>
   bif r0.1.2.1 then (bif (leN ((List.length z.1) + (List.length (z.2.1 :: []))) (E.most .i)) then (again (y.1, ()) ((z.1 ++ (z.2.1 :: [])), ((wI (z.2.1 + (1 : Int))), ())))
    else none)
   else again (y.1, ()) (z.1, ((wI (z.2.1 + (1 : Int))), ())))
  else some ((Sum.inl z), (y.1, ()))
noncomputable def e33_0 (l : A33_0) : LoopE := ⟨[], lc33_0, [1], lb33_0, [3, 4], lv33_0, [], lr33_0, 0, [], l⟩
noncomputable def m33 (c38 : F38) (l0 : A33_0) (y : PTup i33) : Option (PTup o33 × BTup i33) :=
  (l0 () (y.1, ()) ([], ((0 : Int), ()))).bind fun r0 =>
  sumElim r0.1 (fun r1 => some ((r1.1, ()), ()))
  (fun r1 => some (([], ()), ()))
noncomputable def E33 (c38 : F38) (l0 : A33_0) : CEnv := ⟨⟨Tryz.prog, fnsL [g38 c38]⟩, loopsL [(3, e33_0 l0)]⟩
theorem t33_0 (c38 : F38) (l0 : A33_0) (again) (x y z) : loopRound (E33 c38 l0) (loopAt (bodyOf Tryz.f33) 0) (e33_0 l0) Tryz.f33.ntmps again x y z = w33_0 c38  again x y z := by kernel_rfl
noncomputable def n33_0 (c38 : F38)  : Nat → A33_0
  | 0, _, _, _ => none
  | n + 1, x, y, z => w33_0 c38  (fun y z => n33_0 c38  n x y z) x y z
theorem s33 (c38 : F38) (l0 : A33_0) (y) : tevF (E33 c38 l0) Tryz.f33 i33 o33 y = m33 c38 l0 y := by kernel_rfl
noncomputable def L33_0 : A33_0 := n33_0 r38  fuel
noncomputable def r33 : F33 := m33 r38 L33_0
theorem k33 : CK Tryz.prog (g33 r33) := by
  have hE : ∀ g f, (E33 r38 L33_0).env.fns g = some f → CallOk Tryz.prog g f := fnsL_ok ⟨k38, trivial⟩
  have h0 : LoopOk Tryz.prog Tryz.f33.ntmps (loopAt (bodyOf Tryz.f33) 0) (e33_0 L33_0) := lp_ok (E := E33 r38 L33_0) rfl hE mixed (AllLoops.of_list (l := []) (by kernel_rfl) trivial) (n33_0 r38 ) (fun _ _ _ => rfl) (fun n x y z => t33_0 r38 L33_0 _ x y z) rfl
  exact fn_ok (E := E33 r38 L33_0) rfl hE mixed (by kernel_rfl) (by kernel_rfl) (AllLoops.of_list (l := [(loopAt (bodyOf Tryz.f33) 0)]) (by kernel_rfl) (.one (by kernel_rfl) h0 trivial)) (s33 r38 L33_0)
@[reducible] def i113 : List Ty := [.p [.sl false .n, .sl false .i, .sl true .i, .int .i64, .int .i64, .int .i64, .int .i64, .int .i64, .bool, .bool, .bool, .bool, .bool, .int .i64, .int .i64, .bool, .int .i64, .bool, .int .i64, .int .i64, .sl true .i, .int .i64, .int .i64, .int .i64, .int .i64, .int .i64, .bool, .sl true .i, .sl true .i, .int .i64, .sl true .t, .sl true .n, .int .i64, .int .i64, .int .i64, .int .i64, .int .i64, .bool, .bool, .int .i64, .sl true .t, .sl true .i], .v (.int .i64)]
@[reducible] def o113 : List Ty := [.v (.bool)]
abbrev R113 := Option (PTup o113 × BTup i113)
abbrev F113 := PTup i113 → R113
abbrev g113 (c : F113) : Nat × Tev.Fn := (113, ⟨i113, o113, c, .nor⟩)
noncomputable def m113 (c217 : F217) (c218 : F218) (c107 : F107)  (y : PTup i113) : Option (PTup o113 × BTup i113) :=
  let a0 := y.1; let a1 := a0.2; let a2 := a1.2; let a3 := a2.2; let a4 := a3.2; let a5 := a4.2; let a6 := a5.2; let a7 := a6.2; let a8 := a7.2; let a9 := a8.2; let a10 := a9.2; let a11 := a10.2; let a12 := a11.2; let a13 := a12.2; let a14 := a13.2; let a15 := a14.2; let a16 := a15.2; let a17 := a16.2; let a18 := a17.2; let a19 := a18.2; let a20 := a19.2; let a21 := a20.2; let a22 := a21.2; let a23 := a22.2; let a24 := a23.2; let a25 := a24.2; let a26 := a25.2; let a27 := a26.2; let a28 := a27.2; let a29 := a28.2; let a30 := a29.2.2; bif (eqI y.2.1 (0 : Int)) then ((c107 (a0, ())).bind fun r0 => let b0 := r0.2; let b1 := b0.1; let b2 := b1.2; let b3 := b2.2; let b4 := b3.2; let b5 := b4.2; let b6 := b5.2; let b7 := b6.2; let b8 := b7.2; let b9 := b8.2; let b10 := b9.2; let b11 := b10.2; let b12 := b11.2; let b13 := b12.2; let b14 := b13.2; let b15 := b14.2; let b16 := b15.2; let b17 := b16.2; let b18 := b17.2; let b19 := b18.2; let b20 := b19.2; let b21 := b20.2; let b22 := b21.2; let b23 := b22.2; let b24 := b23.2; let b25 := b24.2; let b26 := b25.2; let b27 := b26.2; let b28 := b27.2; let b29 := b28.2; let b30 := b29.2; let b31 := b30.2; let b32 := b31.2.2; let b33 := b32.2.2; let b34 := b33.2.2.2; some (r0.1, ((a0.1, (a1.1, (b3.1, (b4.1, (b5.1, (b6.1, (b7.1, (b8.1, (b9.1, (b10.1, (b11.1, (b12.1, (b13.1, (b14.1, (b15.1, (b16.1, (b17.1, (b18.1, (b19.1, (b20.1, (b21.1, (b22.1, (b23.1, (b24.1, (b25.1, (b26.1, (b27.1, (a27.1, (a28.1, (b30.1, (b31.1, (a30.1, (b32.1, (b32.2.1, (b33.1, (b33.2.1, (b33.2.2.1, (b34.1, (b34.2.1, (b34.2.2.1, (b34.2.2.2.1, a30.2.2.2.2.2.2.2.2.2.2))))))))))))))))))))))))))))))))))))))))), ())))
  else bif (eqI y.2.1 (1 : Int)) then ((c217 ((a21.1, (a22.1, (a23.1, (a24.1, (a25.1, (a26.1, (a27.1, (a28.1, (a29.1, (a29.2.1, (a30.1, ()))))))))))), (a14.1, ()))).bind fun r0 =>
   some (r0.1, ((a0.1, (a1.1, (a2.1, (a3.1, (a4.1, (a5.1, (a6.1, (a7.1, (a8.1, (a9.1, (a10.1, (a11.1, (a12.1, (a13.1, (a14.1, (a15.1, (a16.1, (a17.1, (a18.1, (a19.1, (a20.1, (r0.2.1.1, (r0.2.1.2.1, (r0.2.1.2.2.1, (r0.2.1.2.2.2.1, (r0.2.1.2.2.2.2.1, (r0.2.1.2.2.2.2.2.1, (r0.2.1.2.2.2.2.2.2.1, (r0.2.1.2.2.2.2.2.2.2.1, (r0.2.1.2.2.2.2.2.2.2.2.1, (r0.2.1.2.2.2.2.2.2.2.2.2.1, (r0.2.1.2.2.2.2.2.2.2.2.2.2.1, a30.2)))))))))))))))))))))))))))))))), ())))
  else bif (eqI y.2.1 (2 : Int)) then ((c218 (a30.2, (a14.1, ()))).bind fun r0 =>
   some (r0.1, ((a0.1, (a1.1, (a2.1, (a3.1, (a4.1, (a5.1, (a6.1, (a7.1, (a8.1, (a9.1, (a10.1, (a11.1, (a12.1, (a13.1, (a14.1, (a15.1, (a16.1, (a17.1, (a18.1, (a19.1, (a20.1, (a21.1, (a22.1, (a23.1, (a24.1, (a25.1, (a26.1, (a27.1, (a28.1, (a29.1, (a29.2.1, (a30.1, r0.2.1)))))))))))))))))))))))))))))))), ())))
  else some ((false, ()), (a0, ()))
noncomputable def E113 (c217 : F217) (c218 : F218) (c107 : F107) := mkE [g217 c217, g218 c218, g107 c107]
theorem s113 (c217 : F217) (c218 : F218) (c107 : F107)  (y) : tevF (E113 c217 c218 c107 ) Tryz.f113 i113 o113 y = m113 c217 c218 c107  y := by kernel_rfl
noncomputable def r113 : F113 := m113 r217 r218 r107 
theorem k113 : CK Tryz.prog (g113 r113) := fn0 (s113 r217 r218 r107) (fnsL_ok ⟨k217, k218, k107, trivial⟩) rfl mixed (by kernel_rfl) (by kernel_rfl) (by kernel_rfl)
@[reducible] def i39 : List Ty := [.a q6, .v (.int .i64)]
@[reducible] def o39 : List Ty := [.a q15, .v (.bool)]
abbrev R39 := Option (PTup o39 × BTup i39)
abbrev F39 := PTup i39 → R39
abbrev g39 (c : F39) : Nat × Tev.Fn := (39, ⟨i39, o39, c, .nor⟩)
noncomputable def m39 (c113 : F113) (c69 : F69) (c68 : F68)  (y : PTup i39) : Option (PTup o39 × BTup i39) :=
  (c69 (y.1, ())).bind fun r0 =>
  bif (!r0.1.1) then (some ((([], ([], ([], ((0 : Int), ((0 : Int), ((0 : Int), ((0 : Int), ((0 : Int), (false, (false, (false, (false, (false, ((0 : Int), ((0 : Int), (false, ((0 : Int), (false, ((0 : Int), ((0 : Int), ([], ((0 : Int), ((0 : Int), ((0 : Int), ((0 : Int), ((0 : Int), (false, ([], ([], ((0 : Int), ([], ([], ((0 : Int), ((0 : Int), ((0 : Int), ((0 : Int), ((0 : Int), (false, (false, ((0 : Int), ([], ([], ())))))))))))))))))))))))))))))))))))))))))), (false, ())), ()))
  else (c68 (y.1, ())).bind fun r1 =>
  (c113 (r1.1.1, y.2)).bind fun r2 =>
  some (((r1.1.1.1, (r1.1.1.2.1, r2.2.1.2.2)), r2.1), ())
noncomputable def E39 (c113 : F113) (c69 : F69) (c68 : F68) := mkE [g113 c113, g69 c69, g68 c68]
theorem s39 (c113 : F113) (c69 : F69) (c68 : F68)  (y) : tevF (E39 c113 c69 c68 ) Tryz.f39 i39 o39 y = m39 c113 c69 c68  y := by kernel_rfl
noncomputable def r39 : F39 := m39 r113 r69 r68 
theorem k39 : CK Tryz.prog (g39 r39) := fn0 (s39 r113 r69 r68) (fnsL_ok ⟨k113, k69, k68, trivial⟩) rfl mixed (by kernel_rfl) (by kernel_rfl) (by kernel_rfl)
@[reducible] def i34 : List Ty := [.a q6]
@[reducible] def o34 : List Ty := [.v (.sl true .i)]
abbrev R34 := Option (PTup o34 × BTup i34)
abbrev F34 := PTup i34 → R34
abbrev g34 (c : F34) : Nat × Tev.Fn := (34, ⟨i34, o34, c, .nor⟩)
@[reducible] def lc34_0 : List Ty := []
@[reducible] def lb34_0 : List Ty := [.p q6]
@[reducible] def lv34_0 : List Ty := [.v (.sl true .i), .v (.int .i64)]
@[reducible] def lr34_0 : List Ty := []
abbrev R34_0 := Option (Sum (PTup lv34_0) (PTup lr34_0) × BTup lb34_0)
abbrev B34_0 := PTup lb34_0 → PTup lv34_0 → R34_0
abbrev A34_0 := PTup lc34_0 → B34_0
noncomputable def w34_0 (c39 : F39)  (again : B34_0) (x : PTup lc34_0) (y : PTup lb34_0) (z : PTup lv34_0) : R34_0 :=
  bif (leI z.2.1 (2 : Int)) then ((c39 (y.1, z.2)).bind fun r0 =>
   bif r0.1.2.1 then (bif (leN ((List.length z.1) + (List.length (z.2.1 :: []))) (E.most .i)) then (again (y.1, ()) ((z.1 ++ (z.2.1 :: [])), ((wI (z.2.1 + (1 : Int))), ())))
    else none)
   else again (y.1, ()) (z.1, ((wI (z.2.1 + (1 : Int))), ())))
  else some ((Sum.inl z), (y.1, ()))
noncomputable def e34_0 (l : A34_0) : LoopE := ⟨[], lc34_0, [1], lb34_0, [3, 4], lv34_0, [], lr34_0, 0, [], l⟩
noncomputable def m34 (c39 : F39) (l0 : A34_0) (y : PTup i34) : Option (PTup o34 × BTup i34) :=
  (l0 () (y.1, ()) ([], ((0 : Int), ()))).bind fun r0 =>
  sumElim r0.1 (fun r1 => some ((r1.1, ()), ()))
  (fun r1 => some (([], ()), ()))
noncomputable def E34 (c39 : F39) (l0 : A34_0) : CEnv := ⟨⟨Tryz.prog, fnsL [g39 c39]⟩, loopsL [(3, e34_0 l0)]⟩
theorem t34_0 (c39 : F39) (l0 : A34_0) (again) (x y z) : loopRound (E34 c39 l0) (loopAt (bodyOf Tryz.f34) 0) (e34_0 l0) Tryz.f34.ntmps again x y z = w34_0 c39  again x y z := by kernel_rfl
noncomputable def n34_0 (c39 : F39)  : Nat → A34_0
  | 0, _, _, _ => none
  | n + 1, x, y, z => w34_0 c39  (fun y z => n34_0 c39  n x y z) x y z
theorem s34 (c39 : F39) (l0 : A34_0) (y) : tevF (E34 c39 l0) Tryz.f34 i34 o34 y = m34 c39 l0 y := by kernel_rfl
noncomputable def L34_0 : A34_0 := n34_0 r39  fuel
noncomputable def r34 : F34 := m34 r39 L34_0
theorem k34 : CK Tryz.prog (g34 r34) := by
  have hE : ∀ g f, (E34 r39 L34_0).env.fns g = some f → CallOk Tryz.prog g f := fnsL_ok ⟨k39, trivial⟩
  have h0 : LoopOk Tryz.prog Tryz.f34.ntmps (loopAt (bodyOf Tryz.f34) 0) (e34_0 L34_0) := lp_ok (E := E34 r39 L34_0) rfl hE mixed (AllLoops.of_list (l := []) (by kernel_rfl) trivial) (n34_0 r39 ) (fun _ _ _ => rfl) (fun n x y z => t34_0 r39 L34_0 _ x y z) rfl
  exact fn_ok (E := E34 r39 L34_0) rfl hE mixed (by kernel_rfl) (by kernel_rfl) (AllLoops.of_list (l := [(loopAt (bodyOf Tryz.f34) 0)]) (by kernel_rfl) (.one (by kernel_rfl) h0 trivial)) (s34 r39 L34_0)
@[reducible] def i119 : List Ty := [.a q6]
@[reducible] def o119 : List Ty := [.v (.int .i64)]
abbrev R119 := Option (PTup o119 × BTup i119)
abbrev F119 := PTup i119 → R119
abbrev g119 (c : F119) : Nat × Tev.Fn := (119, ⟨i119, o119, c, .nor⟩)
noncomputable def m119 (c59 : F59) (c104 : F104)  (y : PTup i119) : Option (PTup o119 × BTup i119) :=
  (c59 (y.1, ())).bind fun r0 =>
  bif (!r0.1.1) then (some (((6 : Int), ()), ()))
  else (c104 (y.1, ())).bind fun r1 =>
  some (r1.1, ())
noncomputable def E119 (c59 : F59) (c104 : F104) := mkE [g59 c59, g104 c104]
theorem s119 (c59 : F59) (c104 : F104)  (y) : tevF (E119 c59 c104 ) Tryz.f119 i119 o119 y = m119 c59 c104  y := by kernel_rfl
noncomputable def r119 : F119 := m119 r59 r104 
theorem k119 : CK Tryz.prog (g119 r119) := fn0 (s119 r59 r104) (fnsL_ok ⟨k59, k104, trivial⟩) rfl mixed (by kernel_rfl) (by kernel_rfl) (by kernel_rfl)
@[reducible] def i47 : List Ty := [.a q6]
@[reducible] def o47 : List Ty := [.v (.bool)]
abbrev R47 := Option (PTup o47 × BTup i47)
abbrev F47 := PTup i47 → R47
abbrev g47 (c : F47) : Nat × Tev.Fn := (47, ⟨i47, o47, c, .nor⟩)
noncomputable def m47 (c33 : F33) (c16 : F16) (c59 : F59) (c119 : F119)  (y : PTup i47) : Option (PTup o47 × BTup i47) :=
  (c59 (y.1, ())).bind fun r0 =>
  bif r0.1.1 then ((c33 (y.1, ())).bind fun r1 =>
   bif (ltI (0 : Int) (lenI r1.1.1)) then (some ((true, ()), ()))
   else (c16 (y.1, ())).bind fun r2 =>
   (c119 (r2.1.1, ())).bind fun r3 =>
   some (((eqI r3.1.1 (5 : Int)), ()), ()))
  else some ((false, ()), ())
noncomputable def E47 (c33 : F33) (c16 : F16) (c59 : F59) (c119 : F119) := mkE [g33 c33, g16 c16, g59 c59, g119 c119]
theorem s47 (c33 : F33) (c16 : F16) (c59 : F59) (c119 : F119)  (y) : tevF (E47 c33 c16 c59 c119 ) Tryz.f47 i47 o47 y = m47 c33 c16 c59 c119  y := by kernel_rfl
noncomputable def r47 : F47 := m47 r33 r16 r59 r119 
theorem k47 : CK Tryz.prog (g47 r47) := fn0 (s47 r33 r16 r59 r119) (fnsL_ok ⟨k33, k16, k59, k119, trivial⟩) rfl mixed (by kernel_rfl) (by kernel_rfl) (by kernel_rfl)
@[reducible] def i120 : List Ty := [.a q6]
@[reducible] def o120 : List Ty := [.v (.int .i64)]
abbrev R120 := Option (PTup o120 × BTup i120)
abbrev F120 := PTup i120 → R120
abbrev g120 (c : F120) : Nat × Tev.Fn := (120, ⟨i120, o120, c, .nor⟩)
noncomputable def m120 (c200 : F200) (c69 : F69)  (y : PTup i120) : Option (PTup o120 × BTup i120) :=
  (c69 (y.1, ())).bind fun r0 =>
  bif (!r0.1.1) then (some (((6 : Int), ()), ()))
  else (c200 (y.1, ())).bind fun r1 =>
  some (r1.1, ())
noncomputable def E120 (c200 : F200) (c69 : F69) := mkE [g200 c200, g69 c69]
theorem s120 (c200 : F200) (c69 : F69)  (y) : tevF (E120 c200 c69 ) Tryz.f120 i120 o120 y = m120 c200 c69  y := by kernel_rfl
noncomputable def r120 : F120 := m120 r200 r69 
theorem k120 : CK Tryz.prog (g120 r120) := fn0 (s120 r200 r69) (fnsL_ok ⟨k200, k69, trivial⟩) rfl mixed (by kernel_rfl) (by kernel_rfl) (by kernel_rfl)
@[reducible] def i48 : List Ty := [.a q6]
@[reducible] def o48 : List Ty := [.v (.bool)]
abbrev R48 := Option (PTup o48 × BTup i48)
abbrev F48 := PTup i48 → R48
abbrev g48 (c : F48) : Nat × Tev.Fn := (48, ⟨i48, o48, c, .nor⟩)
noncomputable def m48 (c34 : F34) (c18 : F18) (c69 : F69) (c120 : F120)  (y : PTup i48) : Option (PTup o48 × BTup i48) :=
  (c69 (y.1, ())).bind fun r0 =>
  bif r0.1.1 then ((c34 (y.1, ())).bind fun r1 =>
   bif (ltI (0 : Int) (lenI r1.1.1)) then (some ((true, ()), ()))
   else (c18 (y.1, ())).bind fun r2 =>
   (c120 (r2.1.1, ())).bind fun r3 =>
   some (((eqI r3.1.1 (5 : Int)), ()), ()))
  else some ((false, ()), ())
noncomputable def E48 (c34 : F34) (c18 : F18) (c69 : F69) (c120 : F120) := mkE [g34 c34, g18 c18, g69 c69, g120 c120]
theorem s48 (c34 : F34) (c18 : F18) (c69 : F69) (c120 : F120)  (y) : tevF (E48 c34 c18 c69 c120 ) Tryz.f48 i48 o48 y = m48 c34 c18 c69 c120  y := by kernel_rfl
noncomputable def r48 : F48 := m48 r34 r18 r69 r120 
theorem k48 : CK Tryz.prog (g48 r48) := fn0 (s48 r34 r18 r69 r120) (fnsL_ok ⟨k34, k18, k69, k120, trivial⟩) rfl mixed (by kernel_rfl) (by kernel_rfl) (by kernel_rfl)
@[reducible] def i12 : List Ty := [.a q6]
@[reducible] def o12 : List Ty := [.v (.bool)]
abbrev R12 := Option (PTup o12 × BTup i12)
abbrev F12 := PTup i12 → R12
abbrev g12 (c : F12) : Nat × Tev.Fn := (12, ⟨i12, o12, c, .nor⟩)
noncomputable def m12 (c48 : F48) (c19 : F19) (c15 : F15) (c17 : F17) (c47 : F47)  (y : PTup i12) : Option (PTup o12 × BTup i12) :=
  (c15 (y.1, ((1048576 : Int), ()))).bind fun r0 =>
  bif (ltI r0.1.1 (0 : Int)) then (some ((true, ()), ()))
  else (c17 (y.1, ())).bind fun r1 =>
  (c47 (r1.1.1, ())).bind fun r2 =>
  (c17 (y.1, ())).bind fun r3 =>
  (c48 (r3.1.1, ())).bind fun r4 =>
  bif (!(r4.1.1 == r2.1.1)) then (some ((false, ()), ()))
  else (c17 (y.1, ())).bind fun r5 =>
  (c19 (r3.1.1, (r5.1.1, ()))).bind fun r6 =>
  bif (!r6.1.1) then (some ((false, ()), ()))
  else some ((true, ()), ())
noncomputable def E12 (c48 : F48) (c19 : F19) (c15 : F15) (c17 : F17) (c47 : F47) := mkE [g48 c48, g19 c19, g15 c15, g17 c17, g47 c47]
theorem s12 (c48 : F48) (c19 : F19) (c15 : F15) (c17 : F17) (c47 : F47)  (y) : tevF (E12 c48 c19 c15 c17 c47 ) Tryz.f12 i12 o12 y = m12 c48 c19 c15 c17 c47  y := by kernel_rfl
noncomputable def r12 : F12 := m12 r48 r19 r15 r17 r47 
theorem k12 : CK Tryz.prog (g12 r12) := fn0 (s12 r48 r19 r15 r17 r47) (fnsL_ok ⟨k48, k19, k15, k17, k47, trivial⟩) rfl mixed (by kernel_rfl) (by kernel_rfl) (by kernel_rfl)
end Go.Proofs.YtanoofbkhddokaaGreat.Plain
