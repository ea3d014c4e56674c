/- Plain functions that the program's functions answer as; their contracts. Printed by a program of the proofs' writer. No condition. -/
import Derived.Test.YtanoofbkhddokaaGreatUf
import Derived.KernelRfl
import Derived.Test.YtanoofbkhddokaaGreatFn1
set_option linter.unusedVariables false
set_option linter.unusedSimpArgs false
set_option maxRecDepth 100000
namespace Go.Proofs.YtanoofbkhddokaaGreat.Plain
open Go Go.Tev
@[reducible] def i230 : List Ty := [.a q3]
@[reducible] def o230 : List Ty := [.a [.int .i64, .sl true .t]]
abbrev R230 := Option (PTup o230 × BTup i230)
abbrev F230 := PTup i230 → R230
abbrev g230 (c : F230) : Nat × Tev.Fn := (230, ⟨i230, o230, c, .nor⟩)
noncomputable def m230   (y : PTup i230) : Option (PTup o230 × BTup i230) :=
  bif (leN (0 + (List.length y.1.2.1)) (E.most .t)) then (some (((y.1.1, (([] ++ y.1.2.1), ())), ()), ()))
  else none
noncomputable def E230  := mkE []
theorem s230   (y) : tevF (E230  ) Tryz.f230 i230 o230 y = m230   y := by kernel_rfl
noncomputable def r230 : F230 := m230  
theorem k230 : CK Tryz.prog (g230 r230) := fn0 (s230 ) (fnsL_ok trivial) rfl mixed (by kernel_rfl) (by kernel_rfl) (by kernel_rfl)
@[reducible] def i134 : List Ty := [.a q4]
@[reducible] def o134 : List Ty := [.a [.int .i64, .int .i64, .int .i64, .int .i64, .int .i64, .bool, .sl true .i, .sl true .i, .int .i64, .sl true .t, .sl true .n]]
abbrev R134 := Option (PTup o134 × BTup i134)
abbrev F134 := PTup i134 → R134
abbrev g134 (c : F134) : Nat × Tev.Fn := (134, ⟨i134, o134, c, .nor⟩)
noncomputable def m134 (c172 : F172) (c230 : F230) (c171 : F171)  (y : PTup i134) : Option (PTup o134 × BTup i134) :=
  (c171 ((y.1.1, (y.1.2.1, (y.1.2.2.1, (y.1.2.2.2.1, (y.1.2.2.2.2.1, (y.1.2.2.2.2.2.1, (y.1.2.2.2.2.2.2.1, (y.1.2.2.2.2.2.2.2.1, ())))))))), ())).bind fun r0 =>
  (c230 ((y.1.2.2.2.2.2.2.2.2.1, (y.1.2.2.2.2.2.2.2.2.2.1, ())), ())).bind fun r1 =>
  (c172 y.1.2.2.2.2.2.2.2.2.2.2).bind fun r2 =>
  some (((r0.1.1.1, (r0.1.1.2.1, (r0.1.1.2.2.1, (r0.1.1.2.2.2.1, (r0.1.1.2.2.2.2.1, (r0.1.1.2.2.2.2.2.1, (r0.1.1.2.2.2.2.2.2.1, (r0.1.1.2.2.2.2.2.2.2.1, (r1.1.1.1, (r1.1.1.2.1, r2.1)))))))))), ()), ())
noncomputable def E134 (c172 : F172) (c230 : F230) (c171 : F171) := mkE [g172 c172, g230 c230, g171 c171]
theorem s134 (c172 : F172) (c230 : F230) (c171 : F171)  (y) : tevF (E134 c172 c230 c171 ) Tryz.f134 i134 o134 y = m134 c172 c230 c171  y := by kernel_rfl
noncomputable def r134 : F134 := m134 r172 r230 r171 
theorem k134 : CK Tryz.prog (g134 r134) := fn0 (s134 r172 r230 r171) (fnsL_ok ⟨k172, k230, k171, trivial⟩) rfl mixed (by kernel_rfl) (by kernel_rfl) (by kernel_rfl)
@[reducible] def i135 : List Ty := [.a q5]
@[reducible] def o135 : List Ty := [.a [.int .i64, .int .i64, .int .i64, .int .i64, .int .i64, .bool, .bool, .int .i64, .sl true .t, .sl true .i]]
abbrev R135 := Option (PTup o135 × BTup i135)
abbrev F135 := PTup i135 → R135
abbrev g135 (c : F135) : Nat × Tev.Fn := (135, ⟨i135, o135, c, .nor⟩)
noncomputable def m135 (c230 : F230)  (y : PTup i135) : Option (PTup o135 × BTup i135) :=
  (c230 ((y.1.2.2.2.2.2.2.2.1, (y.1.2.2.2.2.2.2.2.2.1, ())), ())).bind fun r0 =>
  bif (leN (0 + (List.length y.1.2.2.2.2.2.2.2.2.2.1)) (E.most .i)) then (some (((y.1.1, (y.1.2.1, (y.1.2.2.1, (y.1.2.2.2.1, (y.1.2.2.2.2.1, (y.1.2.2.2.2.2.1, (y.1.2.2.2.2.2.2.1, (r0.1.1.1, (r0.1.1.2.1, (([] ++ y.1.2.2.2.2.2.2.2.2.2.1), ())))))))))), ()), ()))
  else none
noncomputable def E135 (c230 : F230) := mkE [g230 c230]
theorem s135 (c230 : F230)  (y) : tevF (E135 c230 ) Tryz.f135 i135 o135 y = m135 c230  y := by kernel_rfl
noncomputable def r135 : F135 := m135 r230 
theorem k135 : CK Tryz.prog (g135 r135) := fn0 (s135 r230) (fnsL_ok ⟨k230, trivial⟩) rfl mixed (by kernel_rfl) (by kernel_rfl) (by kernel_rfl)
@[reducible] def i58 : List Ty := [.a q6]
@[reducible] def o58 : List Ty := [.a [.sl true .n, .sl true .i, .sl true .i, .int .i64, .int .i64, .int .i64, .int .i64, .int .i64, .bool, .bool, .bool, .bool, .bool, .int .i64, .int .i64, .bool, .int .i64, .bool, .int .i64, .int .i64, .sl true .i, .int .i64, .int .i64, .int .i64, .int .i64, .int .i64, .bool, .sl true .i, .sl true .i, .int .i64, .sl true .t, .sl true .n, .int .i64, .int .i64, .int .i64, .int .i64, .int .i64, .bool, .bool, .int .i64, .sl true .t, .sl true .i]]
abbrev R58 := Option (PTup o58 × BTup i58)
abbrev F58 := PTup i58 → R58
abbrev g58 (c : F58) : Nat × Tev.Fn := (58, ⟨i58, o58, c, .nor⟩)
noncomputable def m58 (c132 : F132) (c134 : F134) (c135 : F135) (c133 : F133)  (y : PTup i58) : Option (PTup o58 × BTup i58) :=
  let a0 := y.1; let a1 := a0.2; let a2 := a1.2; let a3 := a2.2; let a4 := a3.2; let a5 := a4.2; let a6 := a5.2; let a7 := a6.2; let a8 := a7.2; let a9 := a8.2; let a10 := a9.2; let a11 := a10.2; let a12 := a11.2; let a13 := a12.2; let a14 := a13.2; let a15 := a14.2; let a16 := a15.2; let a17 := a16.2; let a18 := a17.2; let a19 := a18.2; let a20 := a19.2; let a21 := a20.2; let a22 := a21.2; let a23 := a22.2; let a24 := a23.2.2; let a25 := a24.2.2; (c132 ((a0.1, ()), ())).bind fun r0 =>
  bif (leN (0 + (List.length a1.1)) (E.most .i)) then ((c133 ((a2.1, (a3.1, ())), ())).bind fun r1 =>
   bif (leN (0 + (List.length a20.1)) (E.most .i)) then ((c134 ((a21.1, (a22.1, (a23.1, (a23.2.1, (a24.1, (a24.2.1, (a25.1, (a25.2.1, (a25.2.2.1, (a25.2.2.2.1, (a25.2.2.2.2.1, ()))))))))))), ())).bind fun r2 =>
    (c135 (a25.2.2.2.2.2, ())).bind fun r3 =>
    some (((r0.1.1.1, (([] ++ a1.1), (r1.1.1.1, (r1.1.1.2.1, (a4.1, (a5.1, (a6.1, (a7.1, (a8.1, (a9.1, (a10.1, (a11.1, (a12.1, (a13.1, (a14.1, (a15.1, (a16.1, (a17.1, (a18.1, (a19.1, (([] ++ a20.1), (r2.1.1.1, (r2.1.1.2.1, (r2.1.1.2.2.1, (r2.1.1.2.2.2.1, (r2.1.1.2.2.2.2.1, (r2.1.1.2.2.2.2.2.1, (r2.1.1.2.2.2.2.2.2.1, (r2.1.1.2.2.2.2.2.2.2.1, (r2.1.1.2.2.2.2.2.2.2.2.1, (r2.1.1.2.2.2.2.2.2.2.2.2.1, (r2.1.1.2.2.2.2.2.2.2.2.2.2.1, r3.1.1)))))))))))))))))))))))))))))))), ()), ()))
   else none)
  else none
noncomputable def E58 (c132 : F132) (c134 : F134) (c135 : F135) (c133 : F133) := mkE [g132 c132, g134 c134, g135 c135, g133 c133]
theorem s58 (c132 : F132) (c134 : F134) (c135 : F135) (c133 : F133)  (y) : tevF (E58 c132 c134 c135 c133 ) Tryz.f58 i58 o58 y = m58 c132 c134 c135 c133  y := by kernel_rfl
noncomputable def r58 : F58 := m58 r132 r134 r135 r133 
theorem k58 : CK Tryz.prog (g58 r58) := fn0 (s58 r132 r134 r135 r133) (fnsL_ok ⟨k132, k134, k135, k133, trivial⟩) rfl mixed (by kernel_rfl) (by kernel_rfl) (by kernel_rfl)
@[reducible] def i111 : List Ty := [.a [.int .i64, .int .i64, .int .i64, .int .i64, .int .i64, .bool, .sl true .i, .sl true .i, .int .i64, .sl true .t, .sl true .n], .v (.int .i64)]
@[reducible] def o111 : List Ty := [.a [.int .i64, .int .i64, .int .i64, .int .i64, .int .i64, .bool, .sl true .i, .sl true .i, .int .i64, .sl true .t, .sl true .n], .v (.bool)]
abbrev R111 := Option (PTup o111 × BTup i111)
abbrev F111 := PTup i111 → R111
abbrev g111 (c : F111) : Nat × Tev.Fn := (111, ⟨i111, o111, c, .nor⟩)
noncomputable def m111 (c213 : F213) (c214 : F214)  (y : PTup i111) : Option (PTup o111 × BTup i111) :=
  let a0 := y.1; let a1 := a0.2; let a2 := a1.2; let a3 := a2.2; let a4 := a3.2; let a5 := a4.2; let a6 := a5.2; let a7 := a6.2; let a8 := a7.2; let a9 := a8.2; let X0 : R111 := bif (leI y.2.1 a0.1) then (some ((a0, (false, ())), ())) else bif (eqI a0.1 (20000 : Int)) then (some ((a0, (false, ())), ())) else (c214 ((a0.1, (a1.1, (a2.1, (a3.1, (a4.1, (a5.1, (a6.1, (a7.1, ())))))))), ())).bind fun r0 => bif (eqI (Int.tmod a0.1 (64 : Int)) (48 : Int)) then (bif (leN ((List.length a9.2.1) + (List.length (r0.1.2.1 :: []))) (E.most .n)) then (some (((r0.1.1.1, (r0.1.1.2.1, (r0.1.1.2.2.1, (r0.1.1.2.2.2.1, (r0.1.1.2.2.2.2.1, (r0.1.1.2.2.2.2.2.1, (r0.1.1.2.2.2.2.2.2.1, (r0.1.1.2.2.2.2.2.2.2.1, (a8.1, (a9.1, ((a9.2.1 ++ (r0.1.2.1 :: [])), ()))))))))))), (true, ())), ())) else none) else some (((r0.1.1.1, (r0.1.1.2.1, (r0.1.1.2.2.1, (r0.1.1.2.2.2.1, (r0.1.1.2.2.2.2.1, (r0.1.1.2.2.2.2.2.1, (r0.1.1.2.2.2.2.2.2.1, (r0.1.1.2.2.2.2.2.2.2.1, a8)))))))), (true, ())), ()); bif (ltI (0 : Int) (lenI a9.1)) then (bif (ltI (0 : Int) (lenI a9.1)) then (bif (eqI (rdE .t a9.1 (0 : Int)).1 a0.1) then (bif (ltI (0 : Int) (lenI a9.1)) then (bif (leI (1 : Int) (lenI a9.1)) then (bif (leN (0 + (List.length (List.drop (Int.toNat (1 : Int)) a9.1))) (E.most .t)) then ((c213 ((a0.1, (a1.1, (a2.1, (a3.1, (a4.1, (a5.1, (a6.1, (a7.1, ())))))))), ((rdE .t a9.1 (0 : Int)).2.1, ((rdE .t a9.1 (0 : Int)).2.2, ())))).bind fun r0 => some (((r0.1.1.1, (r0.1.1.2.1, (r0.1.1.2.2.1, (r0.1.1.2.2.2.1, (r0.1.1.2.2.2.2.1, (r0.1.1.2.2.2.2.2.1, (r0.1.1.2.2.2.2.2.2.1, (r0.1.1.2.2.2.2.2.2.2.1, (a8.1, (([] ++ (List.drop (Int.toNat (1 : Int)) a9.1)), a9.2)))))))))), (true, ())), ())) else none) else none) else none) else X0) else none) else X0
noncomputable def E111 (c213 : F213) (c214 : F214) := mkE [g213 c213, g214 c214]
theorem s111 (c213 : F213) (c214 : F214)  (y) : tevF (E111 c213 c214 ) Tryz.f111 i111 o111 y = m111 c213 c214  y := by kernel_rfl
noncomputable def r111 : F111 := m111 r213 r214 
theorem k111 : CK Tryz.prog (g111 r111) := fn0 (s111 r213 r214) (fnsL_ok ⟨k213, k214, trivial⟩) rfl mixed (by kernel_rfl) (by kernel_rfl) (by kernel_rfl)
@[reducible] def i60 : List Ty := [.a q4, .v (.int .i64)]
@[reducible] def o60 : List Ty := [.a [.int .i64, .int .i64, .int .i64, .int .i64, .int .i64, .bool, .sl true .i, .sl true .i, .int .i64, .sl true .t, .sl true .n]]
abbrev R60 := Option (PTup o60 × BTup i60)
abbrev F60 := PTup i60 → R60
abbrev g60 (c : F60) : Nat × Tev.Fn := (60, ⟨i60, o60, c, .nor⟩)
@[reducible] def lc60_0 : List Ty := [.v (.int .i64)]
@[reducible] def lb60_0 : List Ty := [.p [.int .i64, .int .i64, .int .i64, .int .i64, .int .i64, .bool, .sl true .i, .sl true .i, .int .i64, .sl true .t, .sl true .n]]
@[reducible] def lv60_0 : List Ty := [.v (.bool)]
@[reducible] def lr60_0 : List Ty := []
abbrev R60_0 := Option (Sum (PTup lv60_0) (PTup lr60_0) × BTup lb60_0)
abbrev B60_0 := PTup lb60_0 → PTup lv60_0 → R60_0
abbrev A60_0 := PTup lc60_0 → B60_0
noncomputable def w60_0 (c139 : F139) (c111 : F111) (c134 : F134)  (again : B60_0) (x : PTup lc60_0) (y : PTup lb60_0) (z : PTup lv60_0) : R60_0 :=
  bif z.1 then ((c111 (y.1, x)).bind fun r0 =>
   again (r0.1.1, ()) r0.1.2)
  else some ((Sum.inl z), (y.1, ()))
noncomputable def e60_0 (l : A60_0) : LoopE := ⟨[1], lc60_0, [5], lb60_0, [6], lv60_0, [], lr60_0, 0, [], l⟩
noncomputable def m60 (c139 : F139) (c111 : F111) (c134 : F134) (l0 : A60_0) (y : PTup i60) : Option (PTup o60 × BTup i60) :=
  (c139 (y.1, ())).bind fun r0 =>
  bif (!r0.1.1) then (some ((((0 : Int), ((0 : Int), ((0 : Int), ((0 : Int), ((0 : Int), (false, ([], ([], ((0 : Int), ([], ([], ()))))))))))), ()), ()))
  else (c134 (y.1, ())).bind fun r1 =>
  (l0 y.2 (r1.1.1, ()) (true, ())).bind fun r2 =>
  sumElim r2.1 (fun r3 => some ((r2.2.1, ()), ()))
  (fun r3 => some ((((0 : Int), ((0 : Int), ((0 : Int), ((0 : Int), ((0 : Int), (false, ([], ([], ((0 : Int), ([], ([], ()))))))))))), ()), ()))
noncomputable def E60 (c139 : F139) (c111 : F111) (c134 : F134) (l0 : A60_0) : CEnv := ⟨⟨Tryz.prog, fnsL [g139 c139, g111 c111, g134 c134]⟩, loopsL [(5, e60_0 l0)]⟩
theorem t60_0 (c139 : F139) (c111 : F111) (c134 : F134) (l0 : A60_0) (again) (x y z) : loopRound (E60 c139 c111 c134 l0) (loopAt (bodyOf Tryz.f60) 0) (e60_0 l0) Tryz.f60.ntmps again x y z = w60_0 c139 c111 c134  again x y z := by kernel_rfl
noncomputable def n60_0 (c139 : F139) (c111 : F111) (c134 : F134)  : Nat → A60_0
  | 0, _, _, _ => none
  | n + 1, x, y, z => w60_0 c139 c111 c134  (fun y z => n60_0 c139 c111 c134  n x y z) x y z
theorem s60 (c139 : F139) (c111 : F111) (c134 : F134) (l0 : A60_0) (y) : tevF (E60 c139 c111 c134 l0) Tryz.f60 i60 o60 y = m60 c139 c111 c134 l0 y := by kernel_rfl
noncomputable def L60_0 : A60_0 := n60_0 r139 r111 r134  fuel
noncomputable def r60 : F60 := m60 r139 r111 r134 L60_0
theorem k60 : CK Tryz.prog (g60 r60) := by
  have hE : ∀ g f, (E60 r139 r111 r134 L60_0).env.fns g = some f → CallOk Tryz.prog g f := fnsL_ok ⟨k139, k111, k134, trivial⟩
  have h0 : LoopOk Tryz.prog Tryz.f60.ntmps (loopAt (bodyOf Tryz.f60) 0) (e60_0 L60_0) := lp_ok (E := E60 r139 r111 r134 L60_0) rfl hE mixed (AllLoops.of_list (l := []) (by kernel_rfl) trivial) (n60_0 r139 r111 r134 ) (fun _ _ _ => rfl) (fun n x y z => t60_0 r139 r111 r134 L60_0 _ x y z) rfl
  exact fn_ok (E := E60 r139 r111 r134 L60_0) rfl hE mixed (by kernel_rfl) (by kernel_rfl) (AllLoops.of_list (l := [(loopAt (bodyOf Tryz.f60) 0)]) (by kernel_rfl) (.one (by kernel_rfl) h0 trivial)) (s60 r139 r111 r134 L60_0)
@[reducible] def i112 : List Ty := [.a [.int .i64, .int .i64, .int .i64, .int .i64, .int .i64, .bool, .bool, .int .i64, .sl true .t, .sl true .i], .v (.int .i64)]
@[reducible] def o112 : List Ty := [.a [.int .i64, .int .i64, .int .i64, .int .i64, .int .i64, .bool, .bool, .int .i64, .sl true .t, .sl true .i], .v (.bool)]
abbrev R112 := Option (PTup o112 × BTup i112)
abbrev F112 := PTup i112 → R112
abbrev g112 (c : F112) : Nat × Tev.Fn := (112, ⟨i112, o112, c, .nor⟩)
noncomputable def m112 (c215 : F215) (c216 : F216)  (y : PTup i112) : Option (PTup o112 × BTup i112) :=
  let a0 := y.1; let a1 := a0.2; let a2 := a1.2; let a3 := a2.2; let a4 := a3.2; let a5 := a4.2; let a6 := a5.2; let a7 := a6.2; let a8 := a7.2; let a9 := a8.1; let X0 : R112 := bif (leI y.2.1 a0.1) then (some ((a0, (false, ())), ())) else bif (eqI a0.1 (20000 : Int)) then (some ((a0, (false, ())), ())) else (c216 ((a0.1, (a1.1, (a2.1, (a3.1, (a4.1, (a5.1, (a6.1, ()))))))), ())).bind fun r0 => bif r0.1.2.2.1 then (bif (leN ((List.length a8.2.1) + (List.length (r0.1.2.1 :: []))) (E.most .i)) then (some (((r0.1.1.1, (r0.1.1.2.1, (r0.1.1.2.2.1, (r0.1.1.2.2.2.1, (r0.1.1.2.2.2.2.1, (r0.1.1.2.2.2.2.2.1, (r0.1.1.2.2.2.2.2.2.1, (a7.1, (a9, ((a8.2.1 ++ (r0.1.2.1 :: [])), ())))))))))), (true, ())), ())) else none) else some (((r0.1.1.1, (r0.1.1.2.1, (r0.1.1.2.2.1, (r0.1.1.2.2.2.1, (r0.1.1.2.2.2.2.1, (r0.1.1.2.2.2.2.2.1, (r0.1.1.2.2.2.2.2.2.1, a7))))))), (true, ())), ()); bif (ltI (0 : Int) (lenI a9)) then (bif (ltI (0 : Int) (lenI a9)) then (bif (eqI (rdE .t a9 (0 : Int)).1 a0.1) then (bif (ltI (0 : Int) (lenI a9)) then (bif (leI (1 : Int) (lenI a9)) then (bif (leN (0 + (List.length (List.drop (Int.toNat (1 : Int)) a9))) (E.most .t)) then ((c215 ((a0.1, (a1.1, (a2.1, (a3.1, (a4.1, (a5.1, (a6.1, ()))))))), ((rdE .t a9 (0 : Int)).2.1, ((rdE .t a9 (0 : Int)).2.2, ())))).bind fun r0 => some (((r0.1.1.1, (r0.1.1.2.1, (r0.1.1.2.2.1, (r0.1.1.2.2.2.1, (r0.1.1.2.2.2.2.1, (r0.1.1.2.2.2.2.2.1, (r0.1.1.2.2.2.2.2.2.1, (a7.1, (([] ++ (List.drop (Int.toNat (1 : Int)) a9)), a8.2))))))))), (true, ())), ())) else none) else none) else none) else X0) else none) else X0
noncomputable def E112 (c215 : F215) (c216 : F216) := mkE [g215 c215, g216 c216]
theorem s112 (c215 : F215) (c216 : F216)  (y) : tevF (E112 c215 c216 ) Tryz.f112 i112 o112 y = m112 c215 c216  y := by kernel_rfl
noncomputable def r112 : F112 := m112 r215 r216 
theorem k112 : CK Tryz.prog (g112 r112) := fn0 (s112 r215 r216) (fnsL_ok ⟨k215, k216, trivial⟩) rfl mixed (by kernel_rfl) (by kernel_rfl) (by kernel_rfl)
@[reducible] def i61 : List Ty := [.a q5, .v (.int .i64)]
@[reducible] def o61 : List Ty := [.a [.int .i64, .int .i64, .int .i64, .int .i64, .int .i64, .bool, .bool, .int .i64, .sl true .t, .sl true .i]]
abbrev R61 := Option (PTup o61 × BTup i61)
abbrev F61 := PTup i61 → R61
abbrev g61 (c : F61) : Nat × Tev.Fn := (61, ⟨i61, o61, c, .nor⟩)
@[reducible] def lc61_0 : List Ty := [.v (.int .i64)]
@[reducible] def lb61_0 : List Ty := [.p [.int .i64, .int .i64, .int .i64, .int .i64, .int .i64, .bool, .bool, .int .i64, .sl true .t, .sl true .i]]
@[reducible] def lv61_0 : List Ty := [.v (.bool)]
@[reducible] def lr61_0 : List Ty := []
abbrev R61_0 := Option (Sum (PTup lv61_0) (PTup lr61_0) × BTup lb61_0)
abbrev B61_0 := PTup lb61_0 → PTup lv61_0 → R61_0
abbrev A61_0 := PTup lc61_0 → B61_0
noncomputable def w61_0 (c140 : F140) (c112 : F112) (c135 : F135)  (again : B61_0) (x : PTup lc61_0) (y : PTup lb61_0) (z : PTup lv61_0) : R61_0 :=
  bif z.1 then ((c112 (y.1, x)).bind fun r0 =>
   again (r0.1.1, ()) r0.1.2)
  else some ((Sum.inl z), (y.1, ()))
noncomputable def e61_0 (l : A61_0) : LoopE := ⟨[1], lc61_0, [5], lb61_0, [6], lv61_0, [], lr61_0, 0, [], l⟩
noncomputable def m61 (c140 : F140) (c112 : F112) (c135 : F135) (l0 : A61_0) (y : PTup i61) : Option (PTup o61 × BTup i61) :=
  (c140 (y.1, ())).bind fun r0 =>
  bif (!r0.1.1) then (some ((((0 : Int), ((0 : Int), ((0 : Int), ((0 : Int), ((0 : Int), (false, (false, ((0 : Int), ([], ([], ())))))))))), ()), ()))
  else (c135 (y.1, ())).bind fun r1 =>
  (l0 y.2 (r1.1.1, ()) (true, ())).bind fun r2 =>
  sumElim r2.1 (fun r3 => some ((r2.2.1, ()), ()))
  (fun r3 => some ((((0 : Int), ((0 : Int), ((0 : Int), ((0 : Int), ((0 : Int), (false, (false, ((0 : Int), ([], ([], ())))))))))), ()), ()))
noncomputable def E61 (c140 : F140) (c112 : F112) (c135 : F135) (l0 : A61_0) : CEnv := ⟨⟨Tryz.prog, fnsL [g140 c140, g112 c112, g135 c135]⟩, loopsL [(5, e61_0 l0)]⟩
theorem t61_0 (c140 : F140) (c112 : F112) (c135 : F135) (l0 : A61_0) (again) (x y z) : loopRound (E61 c140 c112 c135 l0) (loopAt (bodyOf Tryz.f61) 0) (e61_0 l0) Tryz.f61.ntmps again x y z = w61_0 c140 c112 c135  again x y z := by kernel_rfl
noncomputable def n61_0 (c140 : F140) (c112 : F112) (c135 : F135)  : Nat → A61_0
  | 0, _, _, _ => none
  | n + 1, x, y, z => w61_0 c140 c112 c135  (fun y z => n61_0 c140 c112 c135  n x y z) x y z
theorem s61 (c140 : F140) (c112 : F112) (c135 : F135) (l0 : A61_0) (y) : tevF (E61 c140 c112 c135 l0) Tryz.f61 i61 o61 y = m61 c140 c112 c135 l0 y := by kernel_rfl
noncomputable def L61_0 : A61_0 := n61_0 r140 r112 r135  fuel
noncomputable def r61 : F61 := m61 r140 r112 r135 L61_0
theorem k61 : CK Tryz.prog (g61 r61) := by
  have hE : ∀ g f, (E61 r140 r112 r135 L61_0).env.fns g = some f → CallOk Tryz.prog g f := fnsL_ok ⟨k140, k112, k135, trivial⟩
  have h0 : LoopOk Tryz.prog Tryz.f61.ntmps (loopAt (bodyOf Tryz.f61) 0) (e61_0 L61_0) := lp_ok (E := E61 r140 r112 r135 L61_0) rfl hE mixed (AllLoops.of_list (l := []) (by kernel_rfl) trivial) (n61_0 r140 r112 r135 ) (fun _ _ _ => rfl) (fun n x y z => t61_0 r140 r112 r135 L61_0 _ x y z) rfl
  exact fn_ok (E := E61 r140 r112 r135 L61_0) rfl hE mixed (by kernel_rfl) (by kernel_rfl) (AllLoops.of_list (l := [(loopAt (bodyOf Tryz.f61) 0)]) (by kernel_rfl) (.one (by kernel_rfl) h0 trivial)) (s61 r140 r112 r135 L61_0)
@[reducible] def i16 : List Ty := [.a q6]
@[reducible] def o16 : List Ty := [.a [.sl true .n, .sl true .i, .sl true .i, .int .i64, .int .i64, .int .i64, .int .i64, .int .i64, .bool, .bool, .bool, .bool, .bool, .int .i64, .int .i64, .bool, .int .i64, .bool, .int .i64, .int .i64, .sl true .i, .int .i64, .int .i64, .int .i64, .int .i64, .int .i64, .bool, .sl true .i, .sl true .i, .int .i64, .sl true .t, .sl true .n, .int .i64, .int .i64, .int .i64, .int .i64, .int .i64, .bool, .bool, .int .i64, .sl true .t, .sl true .i]]
abbrev R16 := Option (PTup o16 × BTup i16)
abbrev F16 := PTup i16 → R16
abbrev g16 (c : F16) : Nat × Tev.Fn := (16, ⟨i16, o16, c, .nor⟩)
noncomputable def m16 (c60 : F60) (c61 : F61) (c59 : F59) (c58 : F58)  (y : PTup i16) : Option (PTup o16 × BTup i16) :=
  let a0 := y.1; let a1 := a0.2; let a2 := a1.2; let a3 := a2.2; let a4 := a3.2; let a5 := a4.2; let a6 := a5.2; let a7 := a6.2; let a8 := a7.2; let a9 := a8.2; let a10 := a9.2.2; let a11 := a10.2; let a12 := a11.2; let a13 := a12.2; let a14 := a13.2; let a15 := a14.2; let a16 := a15.2; let a17 := a16.2; let a18 := a17.2; let a19 := a18.2; let a20 := a19.2; let a21 := a20.2; let a22 := a21.2; let a23 := a22.2.2; let a24 := a23.2.2; (c58 (a0, ())).bind fun r0 => let b0 := r0.1; let b1 := b0.1; let b2 := b1.2; let b3 := b2.2; let b4 := b3.2; let b5 := b4.2; let b6 := b5.2; let b7 := b6.2; let b8 := b7.2; let b9 := b8.2; let b10 := b9.2.2; let b11 := b10.2; let b12 := b11.2.2; let b13 := b12.2.2; (c59 (a0, ())).bind fun r1 =>
  bif (!r1.1.1) then (some ((b1, ()), ()))
  else (c60 ((a20.1, (a21.1, (a22.1, (a22.2.1, (a23.1, (a23.2.1, (a24.1, (a24.2.1, (a24.2.2.1, (a24.2.2.2.1, (a24.2.2.2.2.1, ()))))))))))), (a13.1, ()))).bind fun r2 =>
  (c61 (a24.2.2.2.2.2, (a13.1, ()))).bind fun r3 =>
  some (((b1.1, (b2.1, (b3.1, (b4.1, (b5.1, (b6.1, (b7.1, (b8.1, (b9.1, (b9.2.1, (b10.1, (b11.1, (b11.2.1, (b12.1, (b12.2.1, (b13.1, (b13.2.1, (b13.2.2.1, (b13.2.2.2.1, (b13.2.2.2.2.1, (b13.2.2.2.2.2.1, (r2.1.1.1, (r2.1.1.2.1, (r2.1.1.2.2.1, (r2.1.1.2.2.2.1, (r2.1.1.2.2.2.2.1, (r2.1.1.2.2.2.2.2.1, (r2.1.1.2.2.2.2.2.2.1, (r2.1.1.2.2.2.2.2.2.2.1, (r2.1.1.2.2.2.2.2.2.2.2.1, (r2.1.1.2.2.2.2.2.2.2.2.2.1, (r2.1.1.2.2.2.2.2.2.2.2.2.2.1, r3.1.1)))))))))))))))))))))))))))))))), ()), ())
noncomputable def E16 (c60 : F60) (c61 : F61) (c59 : F59) (c58 : F58) := mkE [g60 c60, g61 c61, g59 c59, g58 c58]
theorem s16 (c60 : F60) (c61 : F61) (c59 : F59) (c58 : F58)  (y) : tevF (E16 c60 c61 c59 c58 ) Tryz.f16 i16 o16 y = m16 c60 c61 c59 c58  y := by kernel_rfl
noncomputable def r16 : F16 := m16 r60 r61 r59 r58 
theorem k16 : CK Tryz.prog (g16 r16) := fn0 (s16 r60 r61 r59 r58) (fnsL_ok ⟨k60, k61, k59, k58, trivial⟩) rfl mixed (by kernel_rfl) (by kernel_rfl) (by kernel_rfl)
@[reducible] def i234 : List Ty := [.a q3]
@[reducible] def o234 : List Ty := [.a [.int .i64, .sl true .t]]
abbrev R234 := Option (PTup o234 × BTup i234)
abbrev F234 := PTup i234 → R234
abbrev g234 (c : F234) : Nat × Tev.Fn := (234, ⟨i234, o234, c, .nor⟩)
noncomputable def m234   (y : PTup i234) : Option (PTup o234 × BTup i234) :=
  bif (leN (0 + (List.length y.1.2.1)) (E.most .t)) then (some (((y.1.1, (([] ++ y.1.2.1), ())), ()), ()))
  else none
noncomputable def E234  := mkE []
theorem s234   (y) : tevF (E234  ) Tryz.f234 i234 o234 y = m234   y := by kernel_rfl
noncomputable def r234 : F234 := m234  
theorem k234 : CK Tryz.prog (g234 r234) := fn0 (s234 ) (fnsL_ok trivial) rfl mixed (by kernel_rfl) (by kernel_rfl) (by kernel_rfl)
@[reducible] def i149 : List Ty := [.a q4]
@[reducible] def o149 : List Ty := [.a [.int .i64, .int .i64, .int .i64, .int .i64, .int .i64, .bool, .sl true .i, .sl true .i, .int .i64, .sl true .t, .sl true .n]]
abbrev R149 := Option (PTup o149 × BTup i149)
abbrev F149 := PTup i149 → R149
abbrev g149 (c : F149) : Nat × Tev.Fn := (149, ⟨i149, o149, c, .nor⟩)
noncomputable def m149 (c179 : F179) (c178 : F178) (c234 : F234)  (y : PTup i149) : Option (PTup o149 × BTup i149) :=
  (c178 ((y.1.1, (y.1.2.1, (y.1.2.2.1, (y.1.2.2.2.1, (y.1.2.2.2.2.1, (y.1.2.2.2.2.2.1, (y.1.2.2.2.2.2.2.1, (y.1.2.2.2.2.2.2.2.1, ())))))))), ())).bind fun r0 =>
  (c234 ((y.1.2.2.2.2.2.2.2.2.1, (y.1.2.2.2.2.2.2.2.2.2.1, ())), ())).bind fun r1 =>
  (c179 y.1.2.2.2.2.2.2.2.2.2.2).bind fun r2 =>
  some (((r0.1.1.1, (r0.1.1.2.1, (r0.1.1.2.2.1, (r0.1.1.2.2.2.1, (r0.1.1.2.2.2.2.1, (r0.1.1.2.2.2.2.2.1, (r0.1.1.2.2.2.2.2.2.1, (r0.1.1.2.2.2.2.2.2.2.1, (r1.1.1.1, (r1.1.1.2.1, r2.1)))))))))), ()), ())
noncomputable def E149 (c179 : F179) (c178 : F178) (c234 : F234) := mkE [g179 c179, g178 c178, g234 c234]
theorem s149 (c179 : F179) (c178 : F178) (c234 : F234)  (y) : tevF (E149 c179 c178 c234 ) Tryz.f149 i149 o149 y = m149 c179 c178 c234  y := by kernel_rfl
noncomputable def r149 : F149 := m149 r179 r178 r234 
theorem k149 : CK Tryz.prog (g149 r149) := fn0 (s149 r179 r178 r234) (fnsL_ok ⟨k179, k178, k234, trivial⟩) rfl mixed (by kernel_rfl) (by kernel_rfl) (by kernel_rfl)
@[reducible] def i150 : List Ty := [.a q5]
@[reducible] def o150 : List Ty := [.a [.int .i64, .int .i64, .int .i64, .int .i64, .int .i64, .bool, .bool, .int .i64, .sl true .t, .sl true .i]]
abbrev R150 := Option (PTup o150 × BTup i150)
abbrev F150 := PTup i150 → R150
abbrev g150 (c : F150) : Nat × Tev.Fn := (150, ⟨i150, o150, c, .nor⟩)
noncomputable def m150 (c147 : F147) (c234 : F234)  (y : PTup i150) : Option (PTup o150 × BTup i150) :=
  (c234 ((y.1.2.2.2.2.2.2.2.1, (y.1.2.2.2.2.2.2.2.2.1, ())), ())).bind fun r0 =>
  (c147 y.1.2.2.2.2.2.2.2.2.2).bind fun r1 =>
  some (((y.1.1, (y.1.2.1, (y.1.2.2.1, (y.1.2.2.2.1, (y.1.2.2.2.2.1, (y.1.2.2.2.2.2.1, (y.1.2.2.2.2.2.2.1, (r0.1.1.1, (r0.1.1.2.1, r1.1))))))))), ()), ())
noncomputable def E150 (c147 : F147) (c234 : F234) := mkE [g147 c147, g234 c234]
theorem s150 (c147 : F147) (c234 : F234)  (y) : tevF (E150 c147 c234 ) Tryz.f150 i150 o150 y = m150 c147 c234  y := by kernel_rfl
noncomputable def r150 : F150 := m150 r147 r234 
theorem k150 : CK Tryz.prog (g150 r150) := fn0 (s150 r147 r234) (fnsL_ok ⟨k147, k234, trivial⟩) rfl mixed (by kernel_rfl) (by kernel_rfl) (by kernel_rfl)
@[reducible] def i68 : List Ty := [.a q6]
@[reducible] def o68 : List Ty := [.a [.sl true .n, .sl true .i, .sl true .i, .int .i64, .int .i64, .int .i64, .int .i64, .int .i64, .bool, .bool, .bool, .bool, .bool, .int .i64, .int .i64, .bool, .int .i64, .bool, .int .i64, .int .i64, .sl true .i, .int .i64, .int .i64, .int .i64, .int .i64, .int .i64, .bool, .sl true .i, .sl true .i, .int .i64, .sl true .t, .sl true .n, .int .i64, .int .i64, .int .i64, .int .i64, .int .i64, .bool, .bool, .int .i64, .sl true .t, .sl true .i]]
abbrev R68 := Option (PTup o68 × BTup i68)
abbrev F68 := PTup i68 → R68
abbrev g68 (c : F68) : Nat × Tev.Fn := (68, ⟨i68, o68, c, .nor⟩)
noncomputable def m68 (c146 : F146) (c147 : F147) (c148 : F148) (c149 : F149) (c150 : F150)  (y : PTup i68) : Option (PTup o68 × BTup i68) :=
  let a0 := y.1; let a1 := a0.2; let a2 := a1.2; let a3 := a2.2; let a4 := a3.2; let a5 := a4.2; let a6 := a5.2; let a7 := a6.2; let a8 := a7.2; let a9 := a8.2; let a10 := a9.2; let a11 := a10.2; let a12 := a11.2; let a13 := a12.2; let a14 := a13.2; let a15 := a14.2; let a16 := a15.2; let a17 := a16.2; let a18 := a17.2; let a19 := a18.2; let a20 := a19.2; let a21 := a20.2; let a22 := a21.2; let a23 := a22.2; let a24 := a23.2.2; let a25 := a24.2.2; (c146 ((a0.1, ()), ())).bind fun r0 =>
  (c147 (a1.1, ())).bind fun r1 =>
  (c148 ((a2.1, (a3.1, ())), ())).bind fun r2 =>
  (c147 (a20.1, ())).bind fun r3 =>
  (c149 ((a21.1, (a22.1, (a23.1, (a23.2.1, (a24.1, (a24.2.1, (a25.1, (a25.2.1, (a25.2.2.1, (a25.2.2.2.1, (a25.2.2.2.2.1, ()))))))))))), ())).bind fun r4 =>
  (c150 (a25.2.2.2.2.2, ())).bind fun r5 =>
  some (((r0.1.1.1, (r1.1.1, (r2.1.1.1, (r2.1.1.2.1, (a4.1, (a5.1, (a6.1, (a7.1, (a8.1, (a9.1, (a10.1, (a11.1, (a12.1, (a13.1, (a14.1, (a15.1, (a16.1, (a17.1, (a18.1, (a19.1, (r3.1.1, (r4.1.1.1, (r4.1.1.2.1, (r4.1.1.2.2.1, (r4.1.1.2.2.2.1, (r4.1.1.2.2.2.2.1, (r4.1.1.2.2.2.2.2.1, (r4.1.1.2.2.2.2.2.2.1, (r4.1.1.2.2.2.2.2.2.2.1, (r4.1.1.2.2.2.2.2.2.2.2.1, (r4.1.1.2.2.2.2.2.2.2.2.2.1, (r4.1.1.2.2.2.2.2.2.2.2.2.2.1, r5.1.1)))))))))))))))))))))))))))))))), ()), ())
noncomputable def E68 (c146 : F146) (c147 : F147) (c148 : F148) (c149 : F149) (c150 : F150) := mkE [g146 c146, g147 c147, g148 c148, g149 c149, g150 c150]
theorem s68 (c146 : F146) (c147 : F147) (c148 : F148) (c149 : F149) (c150 : F150)  (y) : tevF (E68 c146 c147 c148 c149 c150 ) Tryz.f68 i68 o68 y = m68 c146 c147 c148 c149 c150  y := by kernel_rfl
noncomputable def r68 : F68 := m68 r146 r147 r148 r149 r150 
theorem k68 : CK Tryz.prog (g68 r68) := fn0 (s68 r146 r147 r148 r149 r150) (fnsL_ok ⟨k146, k147, k148, k149, k150, trivial⟩) rfl mixed (by kernel_rfl) (by kernel_rfl) (by kernel_rfl)
@[reducible] def i284 : List Ty := [.p [.int .i64, .sl true .t], .v (.int .i64)]
@[reducible] def o284 : List Ty := [.a q11, .v (.bool)]
abbrev R284 := Option (PTup o284 × BTup i284)
abbrev F284 := PTup i284 → R284
abbrev g284 (c : F284) : Nat × Tev.Fn := (284, ⟨i284, o284, c, .nor⟩)
noncomputable def m284   (y : PTup i284) : Option (PTup o284 × BTup i284) :=
  bif (eqI (lenI y.1.2.1) (0 : Int)) then (some ((((0 : Int), ((0 : Int), ((0 : Int), ()))), (false, ())), (y.1, ())))
  else bif (ltI (0 : Int) (lenI y.1.2.1)) then (bif (neI (rdE .t y.1.2.1 (0 : Int)).1 y.2.1) then (some ((((0 : Int), ((0 : Int), ((0 : Int), ()))), (false, ())), (y.1, ())))
   else bif (ltI (0 : Int) (lenI y.1.2.1)) then (bif (leI (1 : Int) (lenI y.1.2.1)) then (some ((((rdE .t y.1.2.1 (0 : Int)).1, ((rdE .t y.1.2.1 (0 : Int)).2.1, ((rdE .t y.1.2.1 (0 : Int)).2.2, ()))), (true, ())), ((y.1.1, ((List.drop (Int.toNat (1 : Int)) y.1.2.1), ())), ())))
    else none)
   else none)
  else none
noncomputable def E284  := mkE []
theorem s284   (y) : tevF (E284  ) Tryz.f284 i284 o284 y = m284   y := by kernel_rfl
noncomputable def r284 : F284 := m284  
theorem k284 : CK Tryz.prog (g284 r284) := fn0 (s284 ) (fnsL_ok trivial) rfl mixed (by kernel_rfl) (by kernel_rfl) (by kernel_rfl)
@[reducible] def i217 : List Ty := [.p [.int .i64, .int .i64, .int .i64, .int .i64, .int .i64, .bool, .sl true .i, .sl true .i, .int .i64, .sl true .t, .sl true .n], .v (.int .i64)]
@[reducible] def o217 : List Ty := [.v (.bool)]
abbrev R217 := Option (PTup o217 × BTup i217)
abbrev F217 := PTup i217 → R217
abbrev g217 (c : F217) : Nat × Tev.Fn := (217, ⟨i217, o217, c, .nor⟩)
noncomputable def m217 (c255 : F255) (c285 : F285) (c284 : F284)  (y : PTup i217) : Option (PTup o217 × BTup i217) :=
  let a0 := y.1; let a1 := a0.2; let a2 := a1.2; let a3 := a2.2; let a4 := a3.2; let a5 := a4.2; let a6 := a5.2; let a7 := a6.2; let a8 := a7.2.2; (c284 ((a7.2.1, (a8.1, ())), (a0.1, ()))).bind fun r0 =>
  bif r0.1.2.1 then ((c285 ((a0.1, (a1.1, (a2.1, (a3.1, (a4.1, (a5.1, (a6.1, (a7.1, ())))))))), r0.1.1.2)).bind fun r1 =>
   some ((true, ()), ((r1.2.1.1, (r1.2.1.2.1, (r1.2.1.2.2.1, (r1.2.1.2.2.2.1, (r1.2.1.2.2.2.2.1, (r1.2.1.2.2.2.2.2.1, (r1.2.1.2.2.2.2.2.2.1, (a7.1, (r0.2.1.1, (r0.2.1.2.1, a8.2)))))))))), ())))
  else bif (leI (mnI y.2.1 (20000 : Int)) a0.1) then (some ((false, ()), ((a0.1, (a1.1, (a2.1, (a3.1, (a4.1, (a5.1, (a6.1, (a7.1, (r0.2.1.1, (r0.2.1.2.1, a8.2)))))))))), ())))
  else (c255 ((a0.1, (a1.1, (a2.1, (a3.1, (a4.1, (a5.1, (a6.1, (a7.1, ())))))))), ())).bind fun r1 =>
  bif r1.1.1 then (bif (leN ((List.length a8.2.1) + (List.length (r1.1.2.1 :: []))) (E.most .n)) then (some ((true, ()), ((r1.2.1.1, (r1.2.1.2.1, (r1.2.1.2.2.1, (r1.2.1.2.2.2.1, (r1.2.1.2.2.2.2.1, (r1.2.1.2.2.2.2.2.1, (a6.1, (r1.2.1.2.2.2.2.2.2.2.1, (r0.2.1.1, (r0.2.1.2.1, ((a8.2.1 ++ (r1.1.2.1 :: [])), ()))))))))))), ())))
   else none)
  else some ((true, ()), ((r1.2.1.1, (r1.2.1.2.1, (r1.2.1.2.2.1, (r1.2.1.2.2.2.1, (r1.2.1.2.2.2.2.1, (r1.2.1.2.2.2.2.2.1, (a6.1, (r1.2.1.2.2.2.2.2.2.2.1, (r0.2.1.1, (r0.2.1.2.1, a8.2)))))))))), ()))
noncomputable def E217 (c255 : F255) (c285 : F285) (c284 : F284) := mkE [g255 c255, g285 c285, g284 c284]
theorem s217 (c255 : F255) (c285 : F285) (c284 : F284)  (y) : tevF (E217 c255 c285 c284 ) Tryz.f217 i217 o217 y = m217 c255 c285 c284  y := by kernel_rfl
noncomputable def r217 : F217 := m217 r255 r285 r284 
theorem k217 : CK Tryz.prog (g217 r217) := fn0 (s217 r255 r285 r284) (fnsL_ok ⟨k255, k285, k284, trivial⟩) rfl mixed (by kernel_rfl) (by kernel_rfl) (by kernel_rfl)
@[reducible] def i160 : List Ty := [.p [.int .i64, .int .i64, .int .i64, .int .i64, .int .i64, .bool, .sl true .i, .sl true .i, .int .i64, .sl true .t, .sl true .n], .v (.int .i64)]
@[reducible] def o160 : List Ty := []
abbrev R160 := Option (PTup o160 × BTup i160)
abbrev F160 := PTup i160 → R160
abbrev g160 (c : F160) : Nat × Tev.Fn := (160, ⟨i160, o160, c, .nor⟩)
@[reducible] def lc160_0 : List Ty := [.v (.int .i64)]
@[reducible] def lb160_0 : List Ty := [.p [.int .i64, .int .i64, .int .i64, .int .i64, .int .i64, .bool, .sl true .i, .sl true .i, .int .i64, .sl true .t, .sl true .n]]
@[reducible] def lv160_0 : List Ty := []
@[reducible] def lr160_0 : List Ty := []
abbrev R160_0 := Option (Sum (PTup lv160_0) (PTup lr160_0) × BTup lb160_0)
abbrev B160_0 := PTup lb160_0 → PTup lv160_0 → R160_0
abbrev A160_0 := PTup lc160_0 → B160_0
noncomputable def w160_0 (c217 : F217)  (again : B160_0) (x : PTup lc160_0) (y : PTup lb160_0) (z : PTup lv160_0) : R160_0 :=
  (c217 (y.1, x)).bind fun r0 =>
  bif r0.1.1 then (again (r0.2.1, ()) ())
  else some ((Sum.inl ()), (r0.2.1, ()))
noncomputable def e160_0 (l : A160_0) : LoopE := ⟨[1], lc160_0, [0], lb160_0, [], lv160_0, [], lr160_0, 0, [], l⟩
noncomputable def m160 (c217 : F217) (l0 : A160_0) (y : PTup i160) : Option (PTup o160 × BTup i160) :=
  (l0 y.2 (y.1, ()) ()).bind fun r0 =>
  sumElim r0.1 (fun r1 => some ((), (r0.2.1, ())))
  (fun r1 => some ((), (r0.2.1, ())))
noncomputable def E160 (c217 : F217) (l0 : A160_0) : CEnv := ⟨⟨Tryz.prog, fnsL [g217 c217]⟩, loopsL [(0, e160_0 l0)]⟩
theorem t160_0 (c217 : F217) (l0 : A160_0) (again) (x y z) : loopRound (E160 c217 l0) (loopAt (bodyOf Tryz.f160) 0) (e160_0 l0) Tryz.f160.ntmps again x y z = w160_0 c217  again x y z := by kernel_rfl
noncomputable def n160_0 (c217 : F217)  : Nat → A160_0
  | 0, _, _, _ => none
  | n + 1, x, y, z => w160_0 c217  (fun y z => n160_0 c217  n x y z) x y z
theorem s160 (c217 : F217) (l0 : A160_0) (y) : tevF (E160 c217 l0) Tryz.f160 i160 o160 y = m160 c217 l0 y := by kernel_rfl
noncomputable def L160_0 : A160_0 := n160_0 r217  fuel
noncomputable def r160 : F160 := m160 r217 L160_0
theorem k160 : CK Tryz.prog (g160 r160) := by
  have hE : ∀ g f, (E160 r217 L160_0).env.fns g = some f → CallOk Tryz.prog g f := fnsL_ok ⟨k217, trivial⟩
  have h0 : LoopOk Tryz.prog Tryz.f160.ntmps (loopAt (bodyOf Tryz.f160) 0) (e160_0 L160_0) := lp_ok (E := E160 r217 L160_0) rfl hE mixed (AllLoops.of_list (l := []) (by kernel_rfl) trivial) (n160_0 r217 ) (fun _ _ _ => rfl) (fun n x y z => t160_0 r217 L160_0 _ x y z) rfl
  exact fn_ok (E := E160 r217 L160_0) rfl hE mixed (by kernel_rfl) (by kernel_rfl) (AllLoops.of_list (l := [(loopAt (bodyOf Tryz.f160) 0)]) (by kernel_rfl) (.one (by kernel_rfl) h0 trivial)) (s160 r217 L160_0)
@[reducible] def i218 : List Ty := [.p [.int .i64, .int .i64, .int .i64, .int .i64, .int .i64, .bool, .bool, .int .i64, .sl true .t, .sl true .i], .v (.int .i64)]
@[reducible] def o218 : List Ty := [.v (.bool)]
abbrev R218 := Option (PTup o218 × BTup i218)
abbrev F218 := PTup i218 → R218
abbrev g218 (c : F218) : Nat × Tev.Fn := (218, ⟨i218, o218, c, .nor⟩)
noncomputable def m218 (c256 : F256) (c284 : F284) (c286 : F286)  (y : PTup i218) : Option (PTup o218 × BTup i218) :=
  (c284 ((y.1.2.2.2.2.2.2.2.1, (y.1.2.2.2.2.2.2.2.2.1, ())), (y.1.1, ()))).bind fun r0 =>
  bif r0.1.2.1 then ((c286 ((y.1.1, (y.1.2.1, (y.1.2.2.1, (y.1.2.2.2.1, (y.1.2.2.2.2.1, (y.1.2.2.2.2.2.1, (y.1.2.2.2.2.2.2.1, ()))))))), r0.1.1.2)).bind fun r1 =>
   some ((true, ()), ((r1.1.1.1, (r1.1.1.2.1, (r1.1.1.2.2.1, (r1.1.1.2.2.2.1, (r1.1.1.2.2.2.2.1, (r1.1.1.2.2.2.2.2.1, (r1.1.1.2.2.2.2.2.2.1, (r0.2.1.1, (r0.2.1.2.1, y.1.2.2.2.2.2.2.2.2.2))))))))), ())))
  else bif (leI (mnI y.2.1 (20000 : Int)) y.1.1) then (some ((false, ()), ((y.1.1, (y.1.2.1, (y.1.2.2.1, (y.1.2.2.2.1, (y.1.2.2.2.2.1, (y.1.2.2.2.2.2.1, (y.1.2.2.2.2.2.2.1, (r0.2.1.1, (r0.2.1.2.1, y.1.2.2.2.2.2.2.2.2.2))))))))), ())))
  else (c256 ((y.1.1, (y.1.2.1, (y.1.2.2.1, (y.1.2.2.2.1, (y.1.2.2.2.2.1, (y.1.2.2.2.2.2.1, (y.1.2.2.2.2.2.2.1, ()))))))), ())).bind fun r1 =>
  bif r1.1.2.1 then (bif (leN ((List.length y.1.2.2.2.2.2.2.2.2.2.1) + (List.length (r1.1.1 :: []))) (E.most .i)) then (some ((true, ()), ((r1.2.1.1, (r1.2.1.2.1, (r1.2.1.2.2.1, (r1.2.1.2.2.2.1, (r1.2.1.2.2.2.2.1, (r1.2.1.2.2.2.2.2.1, (r1.2.1.2.2.2.2.2.2.1, (r0.2.1.1, (r0.2.1.2.1, ((y.1.2.2.2.2.2.2.2.2.2.1 ++ (r1.1.1 :: [])), ())))))))))), ())))
   else none)
  else some ((true, ()), ((r1.2.1.1, (r1.2.1.2.1, (r1.2.1.2.2.1, (r1.2.1.2.2.2.1, (r1.2.1.2.2.2.2.1, (r1.2.1.2.2.2.2.2.1, (r1.2.1.2.2.2.2.2.2.1, (r0.2.1.1, (r0.2.1.2.1, y.1.2.2.2.2.2.2.2.2.2))))))))), ()))
noncomputable def E218 (c256 : F256) (c284 : F284) (c286 : F286) := mkE [g256 c256, g284 c284, g286 c286]
theorem s218 (c256 : F256) (c284 : F284) (c286 : F286)  (y) : tevF (E218 c256 c284 c286 ) Tryz.f218 i218 o218 y = m218 c256 c284 c286  y := by kernel_rfl
noncomputable def r218 : F218 := m218 r256 r284 r286 
theorem k218 : CK Tryz.prog (g218 r218) := fn0 (s218 r256 r284 r286) (fnsL_ok ⟨k256, k284, k286, trivial⟩) rfl mixed (by kernel_rfl) (by kernel_rfl) (by kernel_rfl)
@[reducible] def i161 : List Ty := [.p [.int .i64, .int .i64, .int .i64, .int .i64, .int .i64, .bool, .bool, .int .i64, .sl true .t, .sl true .i], .v (.int .i64)]
@[reducible] def o161 : List Ty := []
abbrev R161 := Option (PTup o161 × BTup i161)
abbrev F161 := PTup i161 → R161
abbrev g161 (c : F161) : Nat × Tev.Fn := (161, ⟨i161, o161, c, .nor⟩)
@[reducible] def lc161_0 : List Ty := [.v (.int .i64)]
@[reducible] def lb161_0 : List Ty := [.p [.int .i64, .int .i64, .int .i64, .int .i64, .int .i64, .bool, .bool, .int .i64, .sl true .t, .sl true .i]]
@[reducible] def lv161_0 : List Ty := []
@[reducible] def lr161_0 : List Ty := []
abbrev R161_0 := Option (Sum (PTup lv161_0) (PTup lr161_0) × BTup lb161_0)
abbrev B161_0 := PTup lb161_0 → PTup lv161_0 → R161_0
abbrev A161_0 := PTup lc161_0 → B161_0
noncomputable def w161_0 (c218 : F218)  (again : B161_0) (x : PTup lc161_0) (y : PTup lb161_0) (z : PTup lv161_0) : R161_0 :=
  (c218 (y.1, x)).bind fun r0 =>
  bif r0.1.1 then (again (r0.2.1, ()) ())
  else some ((Sum.inl ()), (r0.2.1, ()))
noncomputable def e161_0 (l : A161_0) : LoopE := ⟨[1], lc161_0, [0], lb161_0, [], lv161_0, [], lr161_0, 0, [], l⟩
noncomputable def m161 (c218 : F218) (l0 : A161_0) (y : PTup i161) : Option (PTup o161 × BTup i161) :=
  (l0 y.2 (y.1, ()) ()).bind fun r0 =>
  sumElim r0.1 (fun r1 => some ((), (r0.2.1, ())))
  (fun r1 => some ((), (r0.2.1, ())))
noncomputable def E161 (c218 : F218) (l0 : A161_0) : CEnv := ⟨⟨Tryz.prog, fnsL [g218 c218]⟩, loopsL [(0, e161_0 l0)]⟩
theorem t161_0 (c218 : F218) (l0 : A161_0) (again) (x y z) : loopRound (E161 c218 l0) (loopAt (bodyOf Tryz.f161) 0) (e161_0 l0) Tryz.f161.ntmps again x y z = w161_0 c218  again x y z := by kernel_rfl
noncomputable def n161_0 (c218 : F218)  : Nat → A161_0
  | 0, _, _, _ => none
  | n + 1, x, y, z => w161_0 c218  (fun y z => n161_0 c218  n x y z) x y z
theorem s161 (c218 : F218) (l0 : A161_0) (y) : tevF (E161 c218 l0) Tryz.f161 i161 o161 y = m161 c218 l0 y := by kernel_rfl
noncomputable def L161_0 : A161_0 := n161_0 r218  fuel
noncomputable def r161 : F161 := m161 r218 L161_0
theorem k161 : CK Tryz.prog (g161 r161) := by
  have hE : ∀ g f, (E161 r218 L161_0).env.fns g = some f → CallOk Tryz.prog g f := fnsL_ok ⟨k218, trivial⟩
  have h0 : LoopOk Tryz.prog Tryz.f161.ntmps (loopAt (bodyOf Tryz.f161) 0) (e161_0 L161_0) := lp_ok (E := E161 r218 L161_0) rfl hE mixed (AllLoops.of_list (l := []) (by kernel_rfl) trivial) (n161_0 r218 ) (fun _ _ _ => rfl) (fun n x y z => t161_0 r218 L161_0 _ x y z) rfl
  exact fn_ok (E := E161 r218 L161_0) rfl hE mixed (by kernel_rfl) (by kernel_rfl) (AllLoops.of_list (l := [(loopAt (bodyOf Tryz.f161) 0)]) (by kernel_rfl) (.one (by kernel_rfl) h0 trivial)) (s161 r218 L161_0)
@[reducible] def i70 : List Ty := [.p [.sl false .n, .sl false .i, .sl false .i, .int .i64, .int .i64, .int .i64, .int .i64, .int .i64, .bool, .bool, .bool, .bool, .bool, .int .i64, .int .i64, .bool, .int .i64, .bool, .int .i64, .int .i64, .sl false .i, .int .i64, .int .i64, .int .i64, .int .i64, .int .i64, .bool, .sl true .i, .sl true .i, .int .i64, .sl true .t, .sl true .n, .int .i64, .int .i64, .int .i64, .int .i64, .int .i64, .bool, .bool, .int .i64, .sl true .t, .sl true .i]]
@[reducible] def o70 : List Ty := []
abbrev R70 := Option (PTup o70 × BTup i70)
abbrev F70 := PTup i70 → R70
abbrev g70 (c : F70) : Nat × Tev.Fn := (70, ⟨i70, o70, c, .nor⟩)
noncomputable def m70 (c160 : F160) (c161 : F161)  (y : PTup i70) : Option (PTup o70 × BTup i70) :=
  let a0 := y.1; let a1 := a0.2; let a2 := a1.2; let a3 := a2.2; let a4 := a3.2; let a5 := a4.2; let a6 := a5.2; let a7 := a6.2; let a8 := a7.2; let a9 := a8.2; let a10 := a9.2; let a11 := a10.2; let a12 := a11.2; let a13 := a12.2; let a14 := a13.2; let a15 := a14.2; let a16 := a15.2; let a17 := a16.2; let a18 := a17.2; let a19 := a18.2; let a20 := a19.2; let a21 := a20.2; let a22 := a21.2; let a23 := a22.2; let a24 := a23.2.2; let a25 := a24.2.2; (c160 ((a21.1, (a22.1, (a23.1, (a23.2.1, (a24.1, (a24.2.1, (a25.1, (a25.2.1, (a25.2.2.1, (a25.2.2.2.1, (a25.2.2.2.2.1, ()))))))))))), (a14.1, ()))).bind fun r0 =>
  (c161 (a25.2.2.2.2.2, (a14.1, ()))).bind fun r1 =>
  some ((), ((a0.1, (a1.1, (a2.1, (a3.1, (a4.1, (a5.1, (a6.1, (a7.1, (a8.1, (a9.1, (a10.1, (a11.1, (a12.1, (a13.1, (a14.1, (a15.1, (a16.1, (a17.1, (a18.1, (a19.1, (a20.1, (r0.2.1.1, (r0.2.1.2.1, (r0.2.1.2.2.1, (r0.2.1.2.2.2.1, (r0.2.1.2.2.2.2.1, (r0.2.1.2.2.2.2.2.1, (r0.2.1.2.2.2.2.2.2.1, (r0.2.1.2.2.2.2.2.2.2.1, (r0.2.1.2.2.2.2.2.2.2.2.1, (r0.2.1.2.2.2.2.2.2.2.2.2.1, (r0.2.1.2.2.2.2.2.2.2.2.2.2.1, r1.2.1)))))))))))))))))))))))))))))))), ()))
noncomputable def E70 (c160 : F160) (c161 : F161) := mkE [g160 c160, g161 c161]
theorem s70 (c160 : F160) (c161 : F161)  (y) : tevF (E70 c160 c161 ) Tryz.f70 i70 o70 y = m70 c160 c161  y := by kernel_rfl
noncomputable def r70 : F70 := m70 r160 r161 
theorem k70 : CK Tryz.prog (g70 r70) := fn0 (s70 r160 r161) (fnsL_ok ⟨k160, k161, trivial⟩) rfl mixed (by kernel_rfl) (by kernel_rfl) (by kernel_rfl)
@[reducible] def i18 : List Ty := [.a q6]
@[reducible] def o18 : List Ty := [.a [.sl true .n, .sl true .i, .sl true .i, .int .i64, .int .i64, .int .i64, .int .i64, .int .i64, .bool, .bool, .bool, .bool, .bool, .int .i64, .int .i64, .bool, .int .i64, .bool, .int .i64, .int .i64, .sl true .i, .int .i64, .int .i64, .int .i64, .int .i64, .int .i64, .bool, .sl true .i, .sl true .i, .int .i64, .sl true .t, .sl true .n, .int .i64, .int .i64, .int .i64, .int .i64, .int .i64, .bool, .bool, .int .i64, .sl true .t, .sl true .i]]
abbrev R18 := Option (PTup o18 × BTup i18)
abbrev F18 := PTup i18 → R18
abbrev g18 (c : F18) : Nat × Tev.Fn := (18, ⟨i18, o18, c, .nor⟩)
noncomputable def m18 (c70 : F70) (c69 : F69) (c68 : F68)  (y : PTup i18) : Option (PTup o18 × BTup i18) :=
  (c68 (y.1, ())).bind fun r0 =>
  (c69 (y.1, ())).bind fun r1 =>
  bif r1.1.1 then ((c70 (r0.1.1, ())).bind fun r2 => let f0 := r2.2; let f1 := f0.1; let f2 := f1.2; let f3 := f2.2; let f4 := f3.2; let f5 := f4.2; let f6 := f5.2; let f7 := f6.2; let f8 := f7.2; let f9 := f8.2; let f10 := f9.2.2; let f11 := f10.2; let f12 := f11.2.2; let f13 := f12.2.2; some (((r0.1.1.1, (r0.1.1.2.1, (r0.1.1.2.2.1, (f4.1, (f5.1, (f6.1, (f7.1, (f8.1, (f9.1, (f9.2.1, (f10.1, (f11.1, (f11.2.1, (f12.1, (f12.2.1, (f13.1, (f13.2.1, (f13.2.2.1, (f13.2.2.2.1, (f13.2.2.2.2.1, (r0.1.1.2.2.2.2.2.2.2.2.2.2.2.2.2.2.2.2.2.2.2.2.1, f13.2.2.2.2.2.2))))))))))))))))))))), ()), ()))
  else some ((r0.1.1, ()), ())
noncomputable def E18 (c70 : F70) (c69 : F69) (c68 : F68) := mkE [g70 c70, g69 c69, g68 c68]
theorem s18 (c70 : F70) (c69 : F69) (c68 : F68)  (y) : tevF (E18 c70 c69 c68 ) Tryz.f18 i18 o18 y = m18 c70 c69 c68  y := by kernel_rfl
noncomputable def r18 : F18 := m18 r70 r69 r68 
theorem k18 : CK Tryz.prog (g18 r18) := fn0 (s18 r70 r69 r68) (fnsL_ok ⟨k70, k69, k68, trivial⟩) rfl mixed (by kernel_rfl) (by kernel_rfl) (by kernel_rfl)
@[reducible] def i187 : List Ty := [.a q6]
@[reducible] def o187 : List Ty := [.v (.bool)]
abbrev R187 := Option (PTup o187 × BTup i187)
abbrev F187 := PTup i187 → R187
abbrev g187 (c : F187) : Nat × Tev.Fn := (187, ⟨i187, o187, c, .nor⟩)
noncomputable def m187   (y : PTup i187) : Option (PTup o187 × BTup i187) :=
  bif (eqI y.1.2.2.2.2.2.2.2.2.2.2.2.2.2.2.2.2.2.2.2.2.2.2.2.2.2.2.2.2.2.2.2.2.1 y.1.2.2.2.2.2.2.2.2.2.2.2.2.2.2.1) then (some (((eqI (lenI y.1.2.2.2.2.2.2.2.2.2.2.2.2.2.2.2.2.2.2.2.2.2.2.2.2.2.2.2.2.2.2.2.2.2.2.2.2.2.2.2.2.1) (0 : Int)), ()), ()))
  else some ((false, ()), ())
noncomputable def E187  := mkE []
theorem s187   (y) : tevF (E187  ) Tryz.f187 i187 o187 y = m187   y := by kernel_rfl
noncomputable def r187 : F187 := m187  
theorem k187 : CK Tryz.prog (g187 r187) := fn0 (s187 ) (fnsL_ok trivial) rfl mixed (by kernel_rfl) (by kernel_rfl) (by kernel_rfl)
@[reducible] def i192 : List Ty := [.a q6]
@[reducible] def o192 : List Ty := [.v (.bool)]
abbrev R192 := Option (PTup o192 × BTup i192)
abbrev F192 := PTup i192 → R192
abbrev g192 (c : F192) : Nat × Tev.Fn := (192, ⟨i192, o192, c, .nor⟩)
noncomputable def m192   (y : PTup i192) : Option (PTup o192 × BTup i192) :=
  bif (eqI y.1.2.2.2.2.2.2.2.2.2.2.2.2.2.2.2.2.2.2.2.2.2.1 y.1.2.2.2.2.2.2.2.2.2.2.2.2.2.2.1) then (some (((eqI (lenI y.1.2.2.2.2.2.2.2.2.2.2.2.2.2.2.2.2.2.2.2.2.2.2.2.2.2.2.2.2.2.2.1) (0 : Int)), ()), ()))
  else some ((false, ()), ())
noncomputable def E192  := mkE []
theorem s192   (y) : tevF (E192  ) Tryz.f192 i192 o192 y = m192   y := by kernel_rfl
noncomputable def r192 : F192 := m192  
theorem k192 : CK Tryz.prog (g192 r192) := fn0 (s192 ) (fnsL_ok trivial) rfl mixed (by kernel_rfl) (by kernel_rfl) (by kernel_rfl)
@[reducible] def i227 : List Ty := [.r q6]
@[reducible] def o227 : List Ty := [.v (.bool)]
abbrev R227 := Option (PTup o227 × BTup i227)
abbrev F227 := PTup i227 → R227
abbrev g227 (c : F227) : Nat × Tev.Fn := (227, ⟨i227, o227, c, .nor⟩)
noncomputable def m227   (y : PTup i227) : Option (PTup o227 × BTup i227) :=
  bif (eqI y.1.2.2.2.2.2.2.2.2.2.2.2.2.2.2.2.2.2.2.2.2.2.2.2.2.2.2.2.2.2.2.2.2.1 y.1.2.2.2.2.2.2.2.2.2.2.2.2.2.2.1) then (some (((eqI (lenI y.1.2.2.2.2.2.2.2.2.2.2.2.2.2.2.2.2.2.2.2.2.2.2.2.2.2.2.2.2.2.2.2.2.2.2.2.2.2.2.2.2.1) (0 : Int)), ()), ()))
  else some ((false, ()), ())
noncomputable def E227  := mkE []
theorem s227   (y) : tevF (E227  ) Tryz.f227 i227 o227 y = m227   y := by kernel_rfl
noncomputable def r227 : F227 := m227  
theorem k227 : CK Tryz.prog (g227 r227) := fn0 (s227 ) (fnsL_ok trivial) rfl mixed (by kernel_rfl) (by kernel_rfl) (by kernel_rfl)
@[reducible] def i226 : List Ty := [.r q6]
@[reducible] def o226 : List Ty := [.v (.bool)]
abbrev R226 := Option (PTup o226 × BTup i226)
abbrev F226 := PTup i226 → R226
abbrev g226 (c : F226) : Nat × Tev.Fn := (226, ⟨i226, o226, c, .nor⟩)
noncomputable def m226   (y : PTup i226) : Option (PTup o226 × BTup i226) :=
  bif (eqI y.1.2.2.2.2.2.2.2.2.2.2.2.2.2.2.2.2.2.2.2.2.2.1 y.1.2.2.2.2.2.2.2.2.2.2.2.2.2.2.1) then (some (((eqI (lenI y.1.2.2.2.2.2.2.2.2.2.2.2.2.2.2.2.2.2.2.2.2.2.2.2.2.2.2.2.2.2.2.1) (0 : Int)), ()), ()))
  else some ((false, ()), ())
noncomputable def E226  := mkE []
theorem s226   (y) : tevF (E226  ) Tryz.f226 i226 o226 y = m226   y := by kernel_rfl
noncomputable def r226 : F226 := m226  
theorem k226 : CK Tryz.prog (g226 r226) := fn0 (s226 ) (fnsL_ok trivial) rfl mixed (by kernel_rfl) (by kernel_rfl) (by kernel_rfl)
@[reducible] def i121 : List Ty := [.a q6]
@[reducible] def o121 : List Ty := [.v (.bool)]
abbrev R121 := Option (PTup o121 × BTup i121)
abbrev F121 := PTup i121 → R121
abbrev g121 (c : F121) : Nat × Tev.Fn := (121, ⟨i121, o121, c, .nor⟩)
noncomputable def m121 (c59 : F59)  (y : PTup i121) : Option (PTup o121 × BTup i121) :=
  (c59 (y.1, ())).bind fun r0 =>
  bif r0.1.1 then (some (((leI y.1.2.2.2.2.2.2.2.2.2.2.2.2.2.2.2.2.2.2.2.1 (3000 : Int)), ()), ()))
  else some ((false, ()), ())
noncomputable def E121 (c59 : F59) := mkE [g59 c59]
theorem s121 (c59 : F59)  (y) : tevF (E121 c59 ) Tryz.f121 i121 o121 y = m121 c59  y := by kernel_rfl
noncomputable def r121 : F121 := m121 r59 
theorem k121 : CK Tryz.prog (g121 r121) := fn0 (s121 r59) (fnsL_ok ⟨k59, trivial⟩) rfl mixed (by kernel_rfl) (by kernel_rfl) (by kernel_rfl)
@[reducible] def i228 : List Ty := [.v (.sl false .i), .v (.sl false .i)]
@[reducible] def o228 : List Ty := [.v (.bool)]
abbrev R228 := Option (PTup o228 × BTup i228)
abbrev F228 := PTup i228 → R228
abbrev g228 (c : F228) : Nat × Tev.Fn := (228, ⟨i228, o228, c, .nor⟩)
@[reducible] def lc228_0 : List Ty := [.v (.sl false .i), .v (.sl false .i)]
@[reducible] def lb228_0 : List Ty := []
@[reducible] def lv228_0 : List Ty := [.v (.int .i64)]
@[reducible] def lr228_0 : List Ty := [.v (.bool)]
abbrev R228_0 := Option (Sum (PTup lv228_0) (PTup lr228_0) × BTup lb228_0)
abbrev B228_0 := PTup lb228_0 → PTup lv228_0 → R228_0
abbrev A228_0 := PTup lc228_0 → B228_0
noncomputable def w228_0   (again : B228_0) (x : PTup lc228_0) (y : PTup lb228_0) (z : PTup lv228_0) : R228_0 :=
  bif (ltI z.1 (lenI x.1)) then (bif (ltI z.1 (lenI x.2.1)) then (bif (leI (0 : Int) z.1) then (bif (ltI z.1 (lenI x.1)) then (bif (leI (0 : Int) z.1) then (bif (ltI z.1 (lenI x.2.1)) then (bif (neI (rdE .i x.1 z.1) (rdE .i x.2.1 z.1)) then (some ((Sum.inr (false, ())), ()))
        else again () ((wI (z.1 + (1 : Int))), ()))
       else none)
      else none)
     else none)
    else none)
   else some ((Sum.inl z), ()))
  else some ((Sum.inl z), ())
noncomputable def e228_0 (l : A228_0) : LoopE := ⟨[0, 1], lc228_0, [], lb228_0, [5], lv228_0, [4], lr228_0, 0, [], l⟩
noncomputable def m228  (l0 : A228_0) (y : PTup i228) : Option (PTup o228 × BTup i228) :=
  (l0 y () ((0 : Int), ())).bind fun r0 =>
  sumElim r0.1 (fun r1 => some (((leI (lenI y.1) (lenI y.2.1)), ()), ()))
  (fun r1 => some (r1, ()))
noncomputable def E228  (l0 : A228_0) : CEnv := ⟨⟨Tryz.prog, fnsL []⟩, loopsL [(2, e228_0 l0)]⟩
theorem t228_0  (l0 : A228_0) (again) (x y z) : loopRound (E228  l0) (loopAt (bodyOf Tryz.f228) 0) (e228_0 l0) Tryz.f228.ntmps again x y z = w228_0   again x y z := by kernel_rfl
noncomputable def n228_0   : Nat → A228_0
  | 0, _, _, _ => none
  | n + 1, x, y, z => w228_0   (fun y z => n228_0   n x y z) x y z
theorem s228  (l0 : A228_0) (y) : tevF (E228  l0) Tryz.f228 i228 o228 y = m228  l0 y := by kernel_rfl
noncomputable def L228_0 : A228_0 := n228_0   fuel
noncomputable def r228 : F228 := m228  L228_0
theorem k228 : CK Tryz.prog (g228 r228) := by
  have hE : ∀ g f, (E228  L228_0).env.fns g = some f → CallOk Tryz.prog g f := fnsL_ok trivial
  have h0 : LoopOk Tryz.prog Tryz.f228.ntmps (loopAt (bodyOf Tryz.f228) 0) (e228_0 L228_0) := lp_ok (E := E228  L228_0) rfl hE mixed (AllLoops.of_list (l := []) (by kernel_rfl) trivial) (n228_0  ) (fun _ _ _ => rfl) (fun n x y z => t228_0  L228_0 _ x y z) rfl
  exact fn_ok (E := E228  L228_0) rfl hE mixed (by kernel_rfl) (by kernel_rfl) (AllLoops.of_list (l := [(loopAt (bodyOf Tryz.f228) 0)]) (by kernel_rfl) (.one (by kernel_rfl) h0 trivial)) (s228  L228_0)
@[reducible] def i219 : List Ty := [.v (.sl false .i), .v (.sl false .i)]
@[reducible] def o219 : List Ty := [.v (.bool)]
abbrev R219 := Option (PTup o219 × BTup i219)
abbrev F219 := PTup i219 → R219
abbrev g219 (c : F219) : Nat × Tev.Fn := (219, ⟨i219, o219, c, .nor⟩)
noncomputable def m219 (c228 : F228)  (y : PTup i219) : Option (PTup o219 × BTup i219) :=
  bif (eqI (lenI y.1) (lenI y.2.1)) then ((c228 y).bind fun r0 =>
   some (r0.1, ()))
  else some ((false, ()), ())
noncomputable def E219 (c228 : F228) := mkE [g228 c228]
theorem s219 (c228 : F228)  (y) : tevF (E219 c228 ) Tryz.f219 i219 o219 y = m219 c228  y := by kernel_rfl
noncomputable def r219 : F219 := m219 r228 
theorem k219 : CK Tryz.prog (g219 r219) := fn0 (s219 r228) (fnsL_ok ⟨k228, trivial⟩) rfl mixed (by kernel_rfl) (by kernel_rfl) (by kernel_rfl)
@[reducible] def i127 : List Ty := [.a q6]
@[reducible] def o127 : List Ty := [.a [.sl true .n, .sl true .i, .sl true .i]]
abbrev R127 := Option (PTup o127 × BTup i127)
abbrev F127 := PTup i127 → R127
abbrev g127 (c : F127) : Nat × Tev.Fn := (127, ⟨i127, o127, c, .nor⟩)
noncomputable def m127 (c172 : F172)  (y : PTup i127) : Option (PTup o127 × BTup i127) :=
  (c172 (y.1.2.2.2.2.2.2.2.2.2.2.2.2.2.2.2.2.2.2.2.2.2.2.2.2.2.2.2.2.2.2.2.1, ())).bind fun r0 =>
  bif (leN (0 + (List.length y.1.2.2.2.2.2.2.2.2.2.2.2.2.2.2.2.2.2.2.2.2.2.2.2.2.2.2.2.2.2.2.2.2.2.2.2.2.2.2.2.2.2.1)) (E.most .i)) then (bif (leN (0 + (List.length y.1.2.2.2.2.2.2.2.2.2.2.2.2.2.2.2.2.2.2.2.2.1)) (E.most .i)) then (some (((r0.1.1, (([] ++ y.1.2.2.2.2.2.2.2.2.2.2.2.2.2.2.2.2.2.2.2.2.2.2.2.2.2.2.2.2.2.2.2.2.2.2.2.2.2.2.2.2.2.1), (([] ++ y.1.2.2.2.2.2.2.2.2.2.2.2.2.2.2.2.2.2.2.2.2.1), ()))), ()), ()))
   else none)
  else none
noncomputable def E127 (c172 : F172) := mkE [g172 c172]
theorem s127 (c172 : F172)  (y) : tevF (E127 c172 ) Tryz.f127 i127 o127 y = m127 c172  y := by kernel_rfl
noncomputable def r127 : F127 := m127 r172 
theorem k127 : CK Tryz.prog (g127 r127) := fn0 (s127 r172) (fnsL_ok ⟨k172, trivial⟩) rfl mixed (by kernel_rfl) (by kernel_rfl) (by kernel_rfl)
@[reducible] def i126 : List Ty := [.a [.sl false .n, .sl false .i, .sl false .i], .a [.sl false .n, .sl false .i, .sl false .i]]
@[reducible] def o126 : List Ty := [.v (.bool)]
abbrev R126 := Option (PTup o126 × BTup i126)
abbrev F126 := PTup i126 → R126
abbrev g126 (c : F126) : Nat × Tev.Fn := (126, ⟨i126, o126, c, .nor⟩)
@[reducible] def lc126_0 : List Ty := []
@[reducible] def lb126_0 : List Ty := [.p [.sl false .n, .sl false .i, .sl false .i], .p [.sl false .n, .sl false .i, .sl false .i]]
@[reducible] def lv126_0 : List Ty := [.v (.int .i64)]
@[reducible] def lr126_0 : List Ty := [.v (.bool)]
abbrev R126_0 := Option (Sum (PTup lv126_0) (PTup lr126_0) × BTup lb126_0)
abbrev B126_0 := PTup lb126_0 → PTup lv126_0 → R126_0
abbrev A126_0 := PTup lc126_0 → B126_0
noncomputable def w126_0 (c228 : F228) (c219 : F219)  (again : B126_0) (x : PTup lc126_0) (y : PTup lb126_0) (z : PTup lv126_0) : R126_0 :=
  bif (ltI z.1 (lenI y.1.1)) then (bif (leI (0 : Int) z.1) then (bif (ltI z.1 (lenI y.1.1)) then (bif (leI (0 : Int) z.1) then (bif (ltI z.1 (lenI y.2.1.1)) then ((c219 ((rdE .n y.1.1 z.1), ((rdE .n y.2.1.1 z.1), ()))).bind fun r0 =>
       bif (!r0.1.1) then (some ((Sum.inr (false, ())), (y.1, (y.2.1, ()))))
       else again (y.1, (y.2.1, ())) ((wI (z.1 + (1 : Int))), ()))
      else none)
     else none)
    else none)
   else none)
  else some ((Sum.inl z), (y.1, (y.2.1, ())))
noncomputable def e126_0 (l : A126_0) : LoopE := ⟨[], lc126_0, [2, 3], lb126_0, [5], lv126_0, [4], lr126_0, 0, [], l⟩
noncomputable def m126 (c228 : F228) (c219 : F219) (l0 : A126_0) (y : PTup i126) : Option (PTup o126 × BTup i126) :=
  bif (ltI (lenI y.2.1.1) (lenI y.1.1)) then (some ((false, ()), ()))
  else (c228 (y.1.2.1, (y.2.1.2.1, ()))).bind fun r0 =>
  bif (!r0.1.1) then (some ((false, ()), ()))
  else (c228 (y.1.2.2.1, y.2.1.2.2)).bind fun r1 =>
  bif (!r1.1.1) then (some ((false, ()), ()))
  else (l0 () (y.1, (y.2.1, ())) ((0 : Int), ())).bind fun r2 =>
  sumElim r2.1 (fun r3 => some ((true, ()), ()))
  (fun r3 => some (r3, ()))
noncomputable def E126 (c228 : F228) (c219 : F219) (l0 : A126_0) : CEnv := ⟨⟨Tryz.prog, fnsL [g228 c228, g219 c219]⟩, loopsL [(4, e126_0 l0)]⟩
theorem t126_0 (c228 : F228) (c219 : F219) (l0 : A126_0) (again) (x y z) : loopRound (E126 c228 c219 l0) (loopAt (bodyOf Tryz.f126) 0) (e126_0 l0) Tryz.f126.ntmps again x y z = w126_0 c228 c219  again x y z := by kernel_rfl
noncomputable def n126_0 (c228 : F228) (c219 : F219)  : Nat → A126_0
  | 0, _, _, _ => none
  | n + 1, x, y, z => w126_0 c228 c219  (fun y z => n126_0 c228 c219  n x y z) x y z
theorem s126 (c228 : F228) (c219 : F219) (l0 : A126_0) (y) : tevF (E126 c228 c219 l0) Tryz.f126 i126 o126 y = m126 c228 c219 l0 y := by kernel_rfl
noncomputable def L126_0 : A126_0 := n126_0 r228 r219  fuel
noncomputable def r126 : F126 := m126 r228 r219 L126_0
theorem k126 : CK Tryz.prog (g126 r126) := by
  have hE : ∀ g f, (E126 r228 r219 L126_0).env.fns g = some f → CallOk Tryz.prog g f := fnsL_ok ⟨k228, k219, trivial⟩
  have h0 : LoopOk Tryz.prog Tryz.f126.ntmps (loopAt (bodyOf Tryz.f126) 0) (e126_0 L126_0) := lp_ok (E := E126 r228 r219 L126_0) rfl hE mixed (AllLoops.of_list (l := []) (by kernel_rfl) trivial) (n126_0 r228 r219 ) (fun _ _ _ => rfl) (fun n x y z => t126_0 r228 r219 L126_0 _ x y z) rfl
  exact fn_ok (E := E126 r228 r219 L126_0) rfl hE mixed (by kernel_rfl) (by kernel_rfl) (AllLoops.of_list (l := [(loopAt (bodyOf Tryz.f126) 0)]) (by kernel_rfl) (.one (by kernel_rfl) h0 trivial)) (s126 r228 r219 L126_0)
@[reducible] def i123 : List Ty := [.a q6]
@[reducible] def o123 : List Ty := [.a q14]
abbrev R123 := Option (PTup o123 × BTup i123)
abbrev F123 := PTup i123 → R123
abbrev g123 (c : F123) : Nat × Tev.Fn := (123, ⟨i123, o123, c, .nor⟩)
noncomputable def m123 (c127 : F127) (c59 : F59) (c132 : F132) (c192 : F192) (c187 : F187) (c133 : F133) (c171 : F171)  (y : PTup i123) : Option (PTup o123 × BTup i123) :=
  let a0 := y.1; let a1 := a0.2; let a2 := a1.2; let a3 := a2.2; let a4 := a3.2; let a5 := a4.2; let a6 := a5.2; let a7 := a6.2; let a8 := a7.2; let a9 := a8.2; let a10 := a9.2; let a11 := a10.2; let a12 := a11.2; let a13 := a12.2; let a14 := a13.2; let a15 := a14.2; let a16 := a15.2; let a17 := a16.2; let a18 := a17.2; let a19 := a18.2; let a20 := a19.2; let a21 := a20.2; let a22 := a21.2; let a23 := a22.2; let a24 := a23.2; let a25 := a24.2; let a26 := a25.2; let a27 := a26.2.2; let a28 := a27.2.2; let a29 := a28.2.2; let a30 := a29.2.2.2; let X0 : R123 := some ((([], ([], ([], ((0 : Int), ((0 : Int), ((0 : Int), ((0 : Int), ((0 : Int), (false, (false, (false, (false, ((0 : Int), ((0 : Int), ((0 : Int), ((0 : Int), ((0 : Int), (false, ([], ([], ((0 : Int), ((0 : Int), ((0 : Int), ((0 : Int), ((0 : Int), (false, (false, (false, ((0 : Int), (false, ((0 : Int), ([], ([], ([], ())))))))))))))))))))))))))))))))))), ()), ()); (c59 (a0, ())).bind fun r0 => bif (!r0.1.1) then X0 else (c192 (a0, ())).bind fun r1 => bif (!r1.1.1) then X0 else (c187 (a0, ())).bind fun r2 => bif (!r2.1.1) then X0 else (c132 ((a0.1, ()), ())).bind fun r3 => bif (leN (0 + (List.length a1.1)) (E.most .i)) then ((c133 ((a2.1, (a3.1, ())), ())).bind fun r4 => (c171 ((a21.1, (a22.1, (a23.1, (a24.1, (a25.1, (a26.1, (a26.2.1, (a27.1, ())))))))), ())).bind fun r5 => (c127 (a0, ())).bind fun r6 => some (((r3.1.1.1, (([] ++ a1.1), (r4.1.1.1, (r4.1.1.2.1, (a4.1, (a5.1, (a6.1, (a7.1, (a8.1, (a9.1, (a10.1, (a11.1, (r5.1.1.1, (r5.1.1.2.1, (r5.1.1.2.2.1, (r5.1.1.2.2.2.1, (r5.1.1.2.2.2.2.1, (r5.1.1.2.2.2.2.2.1, (r5.1.1.2.2.2.2.2.2.1, (r5.1.1.2.2.2.2.2.2.2.1, (a29.1, (a29.2.1, (a29.2.2.1, (a30.1, (a30.2.1, (a30.2.2.1, (a30.2.2.2.1, (a12.1, (a13.1, (a15.1, (a19.1, r6.1.1))))))))))))))))))))))))))))))), ()), ())) else none
noncomputable def E123 (c127 : F127) (c59 : F59) (c132 : F132) (c192 : F192) (c187 : F187) (c133 : F133) (c171 : F171) := mkE [g127 c127, g59 c59, g132 c132, g192 c192, g187 c187, g133 c133, g171 c171]
theorem s123 (c127 : F127) (c59 : F59) (c132 : F132) (c192 : F192) (c187 : F187) (c133 : F133) (c171 : F171)  (y) : tevF (E123 c127 c59 c132 c192 c187 c133 c171 ) Tryz.f123 i123 o123 y = m123 c127 c59 c132 c192 c187 c133 c171  y := by kernel_rfl
noncomputable def r123 : F123 := m123 r127 r59 r132 r192 r187 r133 r171 
theorem k123 : CK Tryz.prog (g123 r123) := fn0 (s123 r127 r59 r132 r192 r187 r133 r171) (fnsL_ok ⟨k127, k59, k132, k192, k187, k133, k171, trivial⟩) rfl mixed (by kernel_rfl) (by kernel_rfl) (by kernel_rfl)
@[reducible] def i222 : List Ty := [.a q2, .a q2]
@[reducible] def o222 : List Ty := [.v (.bool)]
abbrev R222 := Option (PTup o222 × BTup i222)
abbrev F222 := PTup i222 → R222
abbrev g222 (c : F222) : Nat × Tev.Fn := (222, ⟨i222, o222, c, .nor⟩)
noncomputable def m222 (c219 : F219)  (y : PTup i222) : Option (PTup o222 × BTup i222) :=
  bif (eqI y.1.1 y.2.1.1) then (bif (eqI y.1.2.1 y.2.1.2.1) then (bif (eqI y.1.2.2.1 y.2.1.2.2.1) then (bif (eqI y.1.2.2.2.1 y.2.1.2.2.2.1) then (bif (eqI y.1.2.2.2.2.1 y.2.1.2.2.2.2.1) then (bif (y.1.2.2.2.2.2.1 == y.2.1.2.2.2.2.2.1) then ((c219 (y.1.2.2.2.2.2.2.1, (y.2.1.2.2.2.2.2.2.1, ()))).bind fun r0 =>
        bif r0.1.1 then ((c219 (y.1.2.2.2.2.2.2.2.1, y.2.1.2.2.2.2.2.2.2)).bind fun r1 =>
         some (r1.1, ()))
        else some ((false, ()), ()))
       else some ((false, ()), ()))
      else some ((false, ()), ()))
     else some ((false, ()), ()))
    else some ((false, ()), ()))
   else some ((false, ()), ()))
  else some ((false, ()), ())
noncomputable def E222 (c219 : F219) := mkE [g219 c219]
theorem s222 (c219 : F219)  (y) : tevF (E222 c219 ) Tryz.f222 i222 o222 y = m222 c219  y := by kernel_rfl
noncomputable def r222 : F222 := m222 r219 
theorem k222 : CK Tryz.prog (g222 r222) := fn0 (s222 r219) (fnsL_ok ⟨k219, trivial⟩) rfl mixed (by kernel_rfl) (by kernel_rfl) (by kernel_rfl)
@[reducible] def i223 : List Ty := [.a [.sl false .n, .sl false .i, .sl false .i], .a [.sl false .n, .sl false .i, .sl false .i]]
@[reducible] def o223 : List Ty := [.v (.bool)]
abbrev R223 := Option (PTup o223 × BTup i223)
abbrev F223 := PTup i223 → R223
abbrev g223 (c : F223) : Nat × Tev.Fn := (223, ⟨i223, o223, c, .nor⟩)
noncomputable def m223 (c126 : F126)  (y : PTup i223) : Option (PTup o223 × BTup i223) :=
  (c126 (y.1, (y.2.1, ()))).bind fun r0 =>
  bif r0.1.1 then ((c126 (y.2.1, (y.1, ()))).bind fun r1 =>
   some (r1.1, ()))
  else some ((false, ()), ())
noncomputable def E223 (c126 : F126) := mkE [g126 c126]
theorem s223 (c126 : F126)  (y) : tevF (E223 c126 ) Tryz.f223 i223 o223 y = m223 c126  y := by kernel_rfl
noncomputable def r223 : F223 := m223 r126 
theorem k223 : CK Tryz.prog (g223 r223) := fn0 (s223 r126) (fnsL_ok ⟨k126, trivial⟩) rfl mixed (by kernel_rfl) (by kernel_rfl) (by kernel_rfl)
@[reducible] def i122 : List Ty := [.a q13, .a q13]
@[reducible] def o122 : List Ty := [.v (.bool)]
abbrev R122 := Option (PTup o122 × BTup i122)
abbrev F122 := PTup i122 → R122
abbrev g122 (c : F122) : Nat × Tev.Fn := (122, ⟨i122, o122, c, .nor⟩)
noncomputable def m122 (c223 : F223) (c222 : F222) (c219 : F219)  (y : PTup i122) : Option (PTup o122 × BTup i122) :=
  let a0 := y.1; let a1 := y.2; let a2 := a0.2; let a3 := a1.1; let a4 := a2.2; let a5 := a3.2; let a6 := a4.2; let a7 := a5.2; let a8 := a6.2; let a9 := a7.2; let a10 := a8.2; let a11 := a9.2; let a12 := a10.2; let a13 := a11.2; let a14 := a12.2; let a15 := a13.2; let a16 := a14.2; let a17 := a15.2; let a18 := a16.2; let a19 := a17.2; let a20 := a18.2; let a21 := a19.2; let a22 := a20.2; let a23 := a21.2; let a24 := a22.2; let a25 := a23.2; let a26 := a24.2; let a27 := a25.2; let a28 := a26.2; let a29 := a27.2; let a30 := a28.2; let a31 := a29.2; let a32 := a30.2; let a33 := a31.2; let a34 := a32.2; let a35 := a33.2; let a36 := a34.2; let a37 := a35.2; let a38 := a36.2; let a39 := a37.2; let a40 := a38.2; let a41 := a39.2; let a42 := a40.2; let a43 := a41.2; let a44 := a42.2; let a45 := a43.2; let a46 := a45.2; let a47 := a44.2.2; let a48 := a46.2.2; let a49 := a47.2.2; let a50 := a48.2.2; (c219 (a4.1, (a7.1, ()))).bind fun r0 =>
  bif r0.1.1 then (bif (eqI a6.1 a9.1) then (bif ((eqI a8.1 a11.1) && ((eqI a10.1 a13.1) && ((eqI a12.1 a15.1) && ((eqI a14.1 a17.1) && ((a16.1 == a19.1) && ((a18.1 == a21.1) && ((a20.1 == a23.1) && ((a22.1 == a25.1) && true)))))))) then ((c222 ((a24.1, (a26.1, (a28.1, (a30.1, (a32.1, (a34.1, (a36.1, (a38.1, ())))))))), ((a27.1, (a29.1, (a31.1, (a33.1, (a35.1, (a37.1, (a39.1, (a41.1, ())))))))), ()))).bind fun r1 =>
     bif r1.1.1 then (bif ((eqI a40.1 a43.1) && ((eqI a42.1 a45.1) && ((eqI a44.1 a46.1) && ((eqI a44.2.1 a46.2.1) && ((eqI a47.1 a48.1) && ((a47.2.1 == a48.2.1) && ((a49.1 == a50.1) && true))))))) then (bif ((a49.2.1 == a50.2.1) && ((eqI a49.2.2.1 a50.2.2.1) && true)) then (bif (a49.2.2.2.1 == a50.2.2.2.1) then (bif (eqI a49.2.2.2.2.1 a50.2.2.2.2.1) then ((c223 (a49.2.2.2.2.2, (a50.2.2.2.2.2, ()))).bind fun r2 =>
          some (r2.1, ()))
         else some ((false, ()), ()))
        else some ((false, ()), ()))
       else some ((false, ()), ()))
      else some ((false, ()), ()))
     else some ((false, ()), ()))
    else some ((false, ()), ()))
   else some ((false, ()), ()))
  else some ((false, ()), ())
noncomputable def E122 (c223 : F223) (c222 : F222) (c219 : F219) := mkE [g223 c223, g222 c222, g219 c219]
theorem s122 (c223 : F223) (c222 : F222) (c219 : F219)  (y) : tevF (E122 c223 c222 c219 ) Tryz.f122 i122 o122 y = m122 c223 c222 c219  y := by kernel_rfl
noncomputable def r122 : F122 := m122 r223 r222 r219 
theorem k122 : CK Tryz.prog (g122 r122) := fn0 (s122 r223 r222 r219) (fnsL_ok ⟨k223, k222, k219, trivial⟩) rfl mixed (by kernel_rfl) (by kernel_rfl) (by kernel_rfl)
@[reducible] def i49 : List Ty := [.a q6]
@[reducible] def o49 : List Ty := [.v (.bool)]
abbrev R49 := Option (PTup o49 × BTup i49)
abbrev F49 := PTup i49 → R49
abbrev g49 (c : F49) : Nat × Tev.Fn := (49, ⟨i49, o49, c, .nor⟩)
noncomputable def m49 (c123 : F123) (c16 : F16) (c122 : F122) (c31 : F31) (c121 : F121)  (y : PTup i49) : Option (PTup o49 × BTup i49) :=
  (c121 (y.1, ())).bind fun r0 =>
  bif r0.1.1 then ((c16 (y.1, ())).bind fun r1 =>
   (c123 (r1.1.1, ())).bind fun r2 =>
   (c31 (y.1, ())).bind fun r3 =>
   (c122 (r2.1.1, (r3.1.1, ()))).bind fun r4 =>
   some (r4.1, ()))
  else some ((false, ()), ())
noncomputable def E49 (c123 : F123) (c16 : F16) (c122 : F122) (c31 : F31) (c121 : F121) := mkE [g123 c123, g16 c16, g122 c122, g31 c31, g121 c121]
theorem s49 (c123 : F123) (c16 : F16) (c122 : F122) (c31 : F31) (c121 : F121)  (y) : tevF (E49 c123 c16 c122 c31 c121 ) Tryz.f49 i49 o49 y = m49 c123 c16 c122 c31 c121  y := by kernel_rfl
noncomputable def r49 : F49 := m49 r123 r16 r122 r31 r121 
theorem k49 : CK Tryz.prog (g49 r49) := fn0 (s49 r123 r16 r122 r31 r121) (fnsL_ok ⟨k123, k16, k122, k31, k121, trivial⟩) rfl mixed (by kernel_rfl) (by kernel_rfl) (by kernel_rfl)
@[reducible] def i221 : List Ty := [.v (.sl false .i), .v (.sl false .i)]
@[reducible] def o221 : List Ty := [.v (.bool)]
abbrev R221 := Option (PTup o221 × BTup i221)
abbrev F221 := PTup i221 → R221
abbrev g221 (c : F221) : Nat × Tev.Fn := (221, ⟨i221, o221, c, .nor⟩)
@[reducible] def lc221_0 : List Ty := [.v (.sl false .i), .v (.sl false .i), .v (.int .i64)]
@[reducible] def lb221_0 : List Ty := []
@[reducible] def lv221_0 : List Ty := [.v (.int .i64)]
@[reducible] def lr221_0 : List Ty := [.v (.bool)]
abbrev R221_0 := Option (Sum (PTup lv221_0) (PTup lr221_0) × BTup lb221_0)
abbrev B221_0 := PTup lb221_0 → PTup lv221_0 → R221_0
abbrev A221_0 := PTup lc221_0 → B221_0
noncomputable def w221_0   (again : B221_0) (x : PTup lc221_0) (y : PTup lb221_0) (z : PTup lv221_0) : R221_0 :=
  bif (ltI z.1 x.2.2.1) then (bif (leI (0 : Int) z.1) then (bif (ltI z.1 (lenI x.1)) then (bif (leI (0 : Int) z.1) then (bif (ltI z.1 (lenI x.2.1)) then (bif (neI (rdE .i x.1 z.1) (rdE .i x.2.1 z.1)) then (some ((Sum.inr (false, ())), ()))
       else again () ((wI (z.1 + (1 : Int))), ()))
      else none)
     else none)
    else none)
   else none)
  else some ((Sum.inl z), ())
noncomputable def e221_0 (l : A221_0) : LoopE := ⟨[0, 1, 12], lc221_0, [], lb221_0, [13], lv221_0, [4], lr221_0, 0, [], l⟩
noncomputable def m221  (l0 : A221_0) (y : PTup i221) : Option (PTup o221 × BTup i221) :=
  bif (neI (lenI y.1) (lenI y.2.1)) then (some ((false, ()), ()))
  else (l0 (y.1, (y.2.1, ((lenI y.1), ()))) () ((0 : Int), ())).bind fun r0 =>
  sumElim r0.1 (fun r1 => some ((true, ()), ()))
  (fun r1 => some (r1, ()))
noncomputable def E221  (l0 : A221_0) : CEnv := ⟨⟨Tryz.prog, fnsL []⟩, loopsL [(4, e221_0 l0)]⟩
theorem t221_0  (l0 : A221_0) (again) (x y z) : loopRound (E221  l0) (loopAt (bodyOf Tryz.f221) 0) (e221_0 l0) Tryz.f221.ntmps again x y z = w221_0   again x y z := by kernel_rfl
noncomputable def n221_0   : Nat → A221_0
  | 0, _, _, _ => none
  | n + 1, x, y, z => w221_0   (fun y z => n221_0   n x y z) x y z
theorem s221  (l0 : A221_0) (y) : tevF (E221  l0) Tryz.f221 i221 o221 y = m221  l0 y := by kernel_rfl
noncomputable def L221_0 : A221_0 := n221_0   fuel
noncomputable def r221 : F221 := m221  L221_0
theorem k221 : CK Tryz.prog (g221 r221) := by
  have hE : ∀ g f, (E221  L221_0).env.fns g = some f → CallOk Tryz.prog g f := fnsL_ok trivial
  have h0 : LoopOk Tryz.prog Tryz.f221.ntmps (loopAt (bodyOf Tryz.f221) 0) (e221_0 L221_0) := lp_ok (E := E221  L221_0) rfl hE mixed (AllLoops.of_list (l := []) (by kernel_rfl) trivial) (n221_0  ) (fun _ _ _ => rfl) (fun n x y z => t221_0  L221_0 _ x y z) rfl
  exact fn_ok (E := E221  L221_0) rfl hE mixed (by kernel_rfl) (by kernel_rfl) (AllLoops.of_list (l := [(loopAt (bodyOf Tryz.f221) 0)]) (by kernel_rfl) (.one (by kernel_rfl) h0 trivial)) (s221  L221_0)
@[reducible] def i220 : List Ty := [.a q1, .a q1]
@[reducible] def o220 : List Ty := [.v (.bool)]
abbrev R220 := Option (PTup o220 × BTup i220)
abbrev F220 := PTup i220 → R220
abbrev g220 (c : F220) : Nat × Tev.Fn := (220, ⟨i220, o220, c, .nor⟩)
noncomputable def m220 (c221 : F221)  (y : PTup i220) : Option (PTup o220 × BTup i220) :=
  bif (eqI y.1.2.1 y.2.1.2.1) then ((c221 (y.1.1, (y.2.1.1, ()))).bind fun r0 =>
   some (r0.1, ()))
  else some ((false, ()), ())
noncomputable def E220 (c221 : F221) := mkE [g221 c221]
theorem s220 (c221 : F221)  (y) : tevF (E220 c221 ) Tryz.f220 i220 o220 y = m220 c221  y := by kernel_rfl
noncomputable def r220 : F220 := m220 r221 
theorem k220 : CK Tryz.prog (g220 r220) := fn0 (s220 r221) (fnsL_ok ⟨k221, trivial⟩) rfl mixed (by kernel_rfl) (by kernel_rfl) (by kernel_rfl)
@[reducible] def i129 : List Ty := [.a q6]
@[reducible] def o129 : List Ty := [.a [.sl true .n, .sl true .i, .sl true .i]]
abbrev R129 := Option (PTup o129 × BTup i129)
abbrev F129 := PTup i129 → R129
abbrev g129 (c : F129) : Nat × Tev.Fn := (129, ⟨i129, o129, c, .nor⟩)
noncomputable def m129 (c179 : F179) (c147 : F147)  (y : PTup i129) : Option (PTup o129 × BTup i129) :=
  (c179 (y.1.2.2.2.2.2.2.2.2.2.2.2.2.2.2.2.2.2.2.2.2.2.2.2.2.2.2.2.2.2.2.2.1, ())).bind fun r0 =>
  (c147 y.1.2.2.2.2.2.2.2.2.2.2.2.2.2.2.2.2.2.2.2.2.2.2.2.2.2.2.2.2.2.2.2.2.2.2.2.2.2.2.2.2.2).bind fun r1 =>
  (c147 (y.1.2.2.2.2.2.2.2.2.2.2.2.2.2.2.2.2.2.2.2.2.1, ())).bind fun r2 =>
  some (((r0.1.1, (r1.1.1, r2.1)), ()), ())
noncomputable def E129 (c179 : F179) (c147 : F147) := mkE [g179 c179, g147 c147]
theorem s129 (c179 : F179) (c147 : F147)  (y) : tevF (E129 c179 c147 ) Tryz.f129 i129 o129 y = m129 c179 c147  y := by kernel_rfl
noncomputable def r129 : F129 := m129 r179 r147 
theorem k129 : CK Tryz.prog (g129 r129) := fn0 (s129 r179 r147) (fnsL_ok ⟨k179, k147, trivial⟩) rfl mixed (by kernel_rfl) (by kernel_rfl) (by kernel_rfl)
@[reducible] def i288 : List Ty := [.v (.sl false .i), .v (.sl false .i)]
@[reducible] def o288 : List Ty := [.v (.bool)]
abbrev R288 := Option (PTup o288 × BTup i288)
abbrev F288 := PTup i288 → R288
abbrev g288 (c : F288) : Nat × Tev.Fn := (288, ⟨i288, o288, c, .nor⟩)
noncomputable def m288 (c221 : F221)  (y : PTup i288) : Option (PTup o288 × BTup i288) :=
  (c221 y).bind fun r0 =>
  some (r0.1, ())
noncomputable def E288 (c221 : F221) := mkE [g221 c221]
theorem s288 (c221 : F221)  (y) : tevF (E288 c221 ) Tryz.f288 i288 o288 y = m288 c221  y := by kernel_rfl
noncomputable def r288 : F288 := m288 r221 
theorem k288 : CK Tryz.prog (g288 r288) := fn0 (s288 r221) (fnsL_ok ⟨k221, trivial⟩) rfl mixed (by kernel_rfl) (by kernel_rfl) (by kernel_rfl)
@[reducible] def i287 : List Ty := [.v (.sl false .n), .v (.sl false .n), .v (.fn 288)]
@[reducible] def o287 : List Ty := [.v (.bool)]
abbrev R287 := Option (PTup o287 × BTup i287)
abbrev F287 := PTup i287 → R287
abbrev g287 (c : F287) : Nat × Tev.Fn := (287, ⟨i287, o287, c, .nor⟩)
@[reducible] def lc287_0 : List Ty := [.v (.sl false .n), .v (.fn 288), .v (.sl false .n), .v (.int .i64)]
@[reducible] def lb287_0 : List Ty := []
@[reducible] def lv287_0 : List Ty := [.v (.int .i64)]
@[reducible] def lr287_0 : List Ty := [.v (.bool)]
abbrev R287_0 := Option (Sum (PTup lv287_0) (PTup lr287_0) × BTup lb287_0)
abbrev B287_0 := PTup lb287_0 → PTup lv287_0 → R287_0
abbrev A287_0 := PTup lc287_0 → B287_0
noncomputable def w287_0 (c288 : F288)  (again : B287_0) (x : PTup lc287_0) (y : PTup lb287_0) (z : PTup lv287_0) : R287_0 :=
  bif (ltI z.1 x.2.2.2.1) then (bif (leI (0 : Int) z.1) then (bif (ltI z.1 (lenI x.2.2.1)) then (bif (leI (0 : Int) z.1) then (bif (ltI z.1 (lenI x.1)) then ((c288 ((rdE .n x.2.2.1 z.1), ((rdE .n x.1 z.1), ()))).bind fun r0 =>
       bif (!r0.1.1) then (some ((Sum.inr (false, ())), ()))
       else again () ((wI (z.1 + (1 : Int))), ()))
      else none)
     else none)
    else none)
   else none)
  else some ((Sum.inl z), ())
noncomputable def e287_0 (l : A287_0) : LoopE := ⟨[1, 2, 15, 16], lc287_0, [], lb287_0, [17], lv287_0, [6], lr287_0, 0, [], l⟩
noncomputable def m287 (c288 : F288) (l0 : A287_0) (y : PTup i287) : Option (PTup o287 × BTup i287) :=
  bif (neI (lenI y.1) (lenI y.2.1)) then (some ((false, ()), ()))
  else (l0 (y.2.1, ((), (y.1, ((lenI y.1), ())))) () ((0 : Int), ())).bind fun r0 =>
  sumElim r0.1 (fun r1 => some ((true, ()), ()))
  (fun r1 => some (r1, ()))
noncomputable def E287 (c288 : F288) (l0 : A287_0) : CEnv := ⟨⟨Tryz.prog, fnsL [g288 c288]⟩, loopsL [(4, e287_0 l0)]⟩
theorem t287_0 (c288 : F288) (l0 : A287_0) (again) (x y z) : loopRound (E287 c288 l0) (loopAt (bodyOf Tryz.f287) 0) (e287_0 l0) Tryz.f287.ntmps again x y z = w287_0 c288  again x y z := by kernel_rfl
noncomputable def n287_0 (c288 : F288)  : Nat → A287_0
  | 0, _, _, _ => none
  | n + 1, x, y, z => w287_0 c288  (fun y z => n287_0 c288  n x y z) x y z
theorem s287 (c288 : F288) (l0 : A287_0) (y) : tevF (E287 c288 l0) Tryz.f287 i287 o287 y = m287 c288 l0 y := by kernel_rfl
noncomputable def L287_0 : A287_0 := n287_0 r288  fuel
noncomputable def r287 : F287 := m287 r288 L287_0
theorem k287 : CK Tryz.prog (g287 r287) := by
  have hE : ∀ g f, (E287 r288 L287_0).env.fns g = some f → CallOk Tryz.prog g f := fnsL_ok ⟨k288, trivial⟩
  have h0 : LoopOk Tryz.prog Tryz.f287.ntmps (loopAt (bodyOf Tryz.f287) 0) (e287_0 L287_0) := lp_ok (E := E287 r288 L287_0) rfl hE mixed (AllLoops.of_list (l := []) (by kernel_rfl) trivial) (n287_0 r288 ) (fun _ _ _ => rfl) (fun n x y z => t287_0 r288 L287_0 _ x y z) rfl
  exact fn_ok (E := E287 r288 L287_0) rfl hE mixed (by kernel_rfl) (by kernel_rfl) (AllLoops.of_list (l := [(loopAt (bodyOf Tryz.f287) 0)]) (by kernel_rfl) (.one (by kernel_rfl) h0 trivial)) (s287 r288 L287_0)
@[reducible] def i225 : List Ty := [.a [.sl false .n, .sl false .i, .sl false .i], .a [.sl false .n, .sl false .i, .sl false .i]]
@[reducible] def o225 : List Ty := [.v (.bool)]
abbrev R225 := Option (PTup o225 × BTup i225)
abbrev F225 := PTup i225 → R225
abbrev g225 (c : F225) : Nat × Tev.Fn := (225, ⟨i225, o225, c, .nor⟩)
noncomputable def m225 (c287 : F287) (c221 : F221)  (y : PTup i225) : Option (PTup o225 × BTup i225) :=
  (c287 (y.1.1, (y.2.1.1, ((), ())))).bind fun r0 =>
  bif r0.1.1 then ((c221 (y.1.2.1, (y.2.1.2.1, ()))).bind fun r1 =>
   bif r1.1.1 then ((c221 (y.1.2.2.1, y.2.1.2.2)).bind fun r2 =>
    some (r2.1, ()))
   else some ((false, ()), ()))
  else some ((false, ()), ())
noncomputable def E225 (c287 : F287) (c221 : F221) := mkE [g287 c287, g221 c221]
theorem s225 (c287 : F287) (c221 : F221)  (y) : tevF (E225 c287 c221 ) Tryz.f225 i225 o225 y = m225 c287 c221  y := by kernel_rfl
noncomputable def r225 : F225 := m225 r287 r221 
theorem k225 : CK Tryz.prog (g225 r225) := fn0 (s225 r287 r221) (fnsL_ok ⟨k287, k221, trivial⟩) rfl mixed (by kernel_rfl) (by kernel_rfl) (by kernel_rfl)
@[reducible] def i125 : List Ty := [.a q6]
@[reducible] def o125 : List Ty := [.a q14]
abbrev R125 := Option (PTup o125 × BTup i125)
abbrev F125 := PTup i125 → R125
abbrev g125 (c : F125) : Nat × Tev.Fn := (125, ⟨i125, o125, c, .nor⟩)
noncomputable def m125 (c226 : F226) (c227 : F227) (c129 : F129) (c69 : F69) (c68 : F68)  (y : PTup i125) : Option (PTup o125 × BTup i125) :=
  let a0 := y.1; let a1 := a0.2; let a2 := a1.2; let a3 := a2.2; let a4 := a3.2; let a5 := a4.2; let a6 := a5.2; let a7 := a6.2; let a8 := a7.2; let a9 := a8.2; let a10 := a9.2.2; let a11 := a10.2; let a12 := a11.2; let a13 := a12.2.2; let a14 := a13.2.2; let a15 := a14.2.2; let a16 := a15.2.2; let a17 := a16.2.2; let a18 := a17.2.2; let a19 := a18.2.2; let a20 := a19.2.2; let a21 := a20.2.2; let a22 := a21.2.2; let X0 : R125 := some ((([], ([], ([], ((0 : Int), ((0 : Int), ((0 : Int), ((0 : Int), ((0 : Int), (false, (false, (false, (false, ((0 : Int), ((0 : Int), ((0 : Int), ((0 : Int), ((0 : Int), (false, ([], ([], ((0 : Int), ((0 : Int), ((0 : Int), ((0 : Int), ((0 : Int), (false, (false, (false, ((0 : Int), (false, ((0 : Int), ([], ([], ([], ())))))))))))))))))))))))))))))))))), ()), ()); (c69 (a0, ())).bind fun r0 => bif (!r0.1.1) then X0 else (c226 (a0, ())).bind fun r1 => bif (!r1.1.1) then X0 else (c227 (a0, ())).bind fun r2 => bif (!r2.1.1) then X0 else (c68 (a0, ())).bind fun r3 => (c129 (r3.1.1, ())).bind fun r4 => some (((r3.1.1.1, (r3.1.1.2.1, (r3.1.1.2.2.1, (r3.1.1.2.2.2.1, (a4.1, (a5.1, (a6.1, (a7.1, (a8.1, (a9.1, (a9.2.1, (a10.1, (r3.1.1.2.2.2.2.2.2.2.2.2.2.2.2.2.2.2.2.2.2.2.2.2.1, (r3.1.1.2.2.2.2.2.2.2.2.2.2.2.2.2.2.2.2.2.2.2.2.2.2.1, (r3.1.1.2.2.2.2.2.2.2.2.2.2.2.2.2.2.2.2.2.2.2.2.2.2.2.1, (r3.1.1.2.2.2.2.2.2.2.2.2.2.2.2.2.2.2.2.2.2.2.2.2.2.2.2.1, (r3.1.1.2.2.2.2.2.2.2.2.2.2.2.2.2.2.2.2.2.2.2.2.2.2.2.2.2.1, (r3.1.1.2.2.2.2.2.2.2.2.2.2.2.2.2.2.2.2.2.2.2.2.2.2.2.2.2.2.1, (r3.1.1.2.2.2.2.2.2.2.2.2.2.2.2.2.2.2.2.2.2.2.2.2.2.2.2.2.2.2.1, (r3.1.1.2.2.2.2.2.2.2.2.2.2.2.2.2.2.2.2.2.2.2.2.2.2.2.2.2.2.2.2.1, (a21.2.1, (a22.1, (a22.2.1, (a22.2.2.1, (a22.2.2.2.1, (a22.2.2.2.2.1, (a22.2.2.2.2.2.1, (a11.1, (a12.1, (a13.1, (a15.1, r4.1.1))))))))))))))))))))))))))))))), ()), ())
noncomputable def E125 (c226 : F226) (c227 : F227) (c129 : F129) (c69 : F69) (c68 : F68) := mkE [g226 c226, g227 c227, g129 c129, g69 c69, g68 c68]
theorem s125 (c226 : F226) (c227 : F227) (c129 : F129) (c69 : F69) (c68 : F68)  (y) : tevF (E125 c226 c227 c129 c69 c68 ) Tryz.f125 i125 o125 y = m125 c226 c227 c129 c69 c68  y := by kernel_rfl
noncomputable def r125 : F125 := m125 r226 r227 r129 r69 r68 
theorem k125 : CK Tryz.prog (g125 r125) := fn0 (s125 r226 r227 r129 r69 r68) (fnsL_ok ⟨k226, k227, k129, k69, k68, trivial⟩) rfl mixed (by kernel_rfl) (by kernel_rfl) (by kernel_rfl)
@[reducible] def i224 : List Ty := [.a q2, .a q2]
@[reducible] def o224 : List Ty := [.v (.bool)]
abbrev R224 := Option (PTup o224 × BTup i224)
abbrev F224 := PTup i224 → R224
abbrev g224 (c : F224) : Nat × Tev.Fn := (224, ⟨i224, o224, c, .nor⟩)
noncomputable def m224 (c221 : F221)  (y : PTup i224) : Option (PTup o224 × BTup i224) :=
  bif (eqI y.1.1 y.2.1.1) then (bif (eqI y.1.2.1 y.2.1.2.1) then (bif (eqI y.1.2.2.1 y.2.1.2.2.1) then (bif (eqI y.1.2.2.2.1 y.2.1.2.2.2.1) then (bif (eqI y.1.2.2.2.2.1 y.2.1.2.2.2.2.1) then (bif (y.1.2.2.2.2.2.1 == y.2.1.2.2.2.2.2.1) then ((c221 (y.1.2.2.2.2.2.2.1, (y.2.1.2.2.2.2.2.2.1, ()))).bind fun r0 =>
        bif r0.1.1 then ((c221 (y.1.2.2.2.2.2.2.2.1, y.2.1.2.2.2.2.2.2.2)).bind fun r1 =>
         some (r1.1, ()))
        else some ((false, ()), ()))
       else some ((false, ()), ()))
      else some ((false, ()), ()))
     else some ((false, ()), ()))
    else some ((false, ()), ()))
   else some ((false, ()), ()))
  else some ((false, ()), ())
noncomputable def E224 (c221 : F221) := mkE [g221 c221]
theorem s224 (c221 : F221)  (y) : tevF (E224 c221 ) Tryz.f224 i224 o224 y = m224 c221  y := by kernel_rfl
noncomputable def r224 : F224 := m224 r221 
theorem k224 : CK Tryz.prog (g224 r224) := fn0 (s224 r221) (fnsL_ok ⟨k221, trivial⟩) rfl mixed (by kernel_rfl) (by kernel_rfl) (by kernel_rfl)
@[reducible] def i124 : List Ty := [.a q13, .a q13]
@[reducible] def o124 : List Ty := [.v (.bool)]
abbrev R124 := Option (PTup o124 × BTup i124)
abbrev F124 := PTup i124 → R124
abbrev g124 (c : F124) : Nat × Tev.Fn := (124, ⟨i124, o124, c, .nor⟩)
noncomputable def m124 (c225 : F225) (c220 : F220) (c224 : F224)  (y : PTup i124) : Option (PTup o124 × BTup i124) :=
  let a0 := y.1; let a1 := y.2; let a2 := a0.2; let a3 := a1.1; let a4 := a2.2; let a5 := a3.2; let a6 := a4.2; let a7 := a5.2; let a8 := a6.2; let a9 := a7.2; let a10 := a8.2; let a11 := a9.2; let a12 := a10.2; let a13 := a11.2; let a14 := a12.2; let a15 := a13.2; let a16 := a14.2; let a17 := a15.2; let a18 := a16.2; let a19 := a17.2; let a20 := a18.2; let a21 := a19.2; let a22 := a20.2; let a23 := a21.2; let a24 := a22.2; let a25 := a23.2; let a26 := a24.2; let a27 := a25.2; let a28 := a26.2; let a29 := a27.2; let a30 := a28.2; let a31 := a29.2; let a32 := a30.2; let a33 := a31.2; let a34 := a32.2; let a35 := a33.2; let a36 := a34.2; let a37 := a35.2; let a38 := a36.2; let a39 := a37.2; let a40 := a38.2; let a41 := a39.2; let a42 := a40.2; let a43 := a41.2; let a44 := a42.2; let a45 := a43.2; let a46 := a45.2; let a47 := a44.2.2; let a48 := a46.2.2; let a49 := a47.2.2; let a50 := a48.2.2; bif ((eqI a8.1 a11.1) && ((eqI a10.1 a13.1) && ((eqI a12.1 a15.1) && ((eqI a14.1 a17.1) && ((a16.1 == a19.1) && ((a18.1 == a21.1) && ((a20.1 == a23.1) && ((a22.1 == a25.1) && true)))))))) then (bif ((eqI a40.1 a43.1) && ((eqI a42.1 a45.1) && ((eqI a44.1 a46.1) && ((eqI a44.2.1 a46.2.1) && ((eqI a47.1 a48.1) && ((a47.2.1 == a48.2.1) && ((a49.1 == a50.1) && true))))))) then (bif ((a49.2.1 == a50.2.1) && ((eqI a49.2.2.1 a50.2.2.1) && true)) then (bif (a49.2.2.2.1 == a50.2.2.2.1) then (bif (eqI a49.2.2.2.2.1 a50.2.2.2.2.1) then ((c220 ((a4.1, (a6.1, ())), ((a7.1, (a9.1, ())), ()))).bind fun r0 =>
       bif r0.1.1 then ((c224 ((a24.1, (a26.1, (a28.1, (a30.1, (a32.1, (a34.1, (a36.1, (a38.1, ())))))))), ((a27.1, (a29.1, (a31.1, (a33.1, (a35.1, (a37.1, (a39.1, (a41.1, ())))))))), ()))).bind fun r1 =>
        bif r1.1.1 then ((c225 (a49.2.2.2.2.2, (a50.2.2.2.2.2, ()))).bind fun r2 =>
         some (r2.1, ()))
        else some ((false, ()), ()))
       else some ((false, ()), ()))
      else some ((false, ()), ()))
     else some ((false, ()), ()))
    else some ((false, ()), ()))
   else some ((false, ()), ()))
  else some ((false, ()), ())
noncomputable def E124 (c225 : F225) (c220 : F220) (c224 : F224) := mkE [g225 c225, g220 c220, g224 c224]
theorem s124 (c225 : F225) (c220 : F220) (c224 : F224)  (y) : tevF (E124 c225 c220 c224 ) Tryz.f124 i124 o124 y = m124 c225 c220 c224  y := by kernel_rfl
noncomputable def r124 : F124 := m124 r225 r220 r224 
theorem k124 : CK Tryz.prog (g124 r124) := fn0 (s124 r225 r220 r224) (fnsL_ok ⟨k225, k220, k224, trivial⟩) rfl mixed (by kernel_rfl) (by kernel_rfl) (by kernel_rfl)
@[reducible] def i50 : List Ty := [.a q6]
@[reducible] def o50 : List Ty := [.v (.bool)]
abbrev R50 := Option (PTup o50 × BTup i50)
abbrev F50 := PTup i50 → R50
abbrev g50 (c : F50) : Nat × Tev.Fn := (50, ⟨i50, o50, c, .nor⟩)
noncomputable def m50 (c125 : F125) (c18 : F18) (c124 : F124) (c32 : F32) (c109 : F109)  (y : PTup i50) : Option (PTup o50 × BTup i50) :=
  (c109 (y.1, ())).bind fun r0 =>
  bif r0.1.1 then ((c18 (y.1, ())).bind fun r1 =>
   (c125 (r1.1.1, ())).bind fun r2 =>
   (c32 (y.1, ())).bind fun r3 =>
   (c124 (r2.1.1, (r3.1.1, ()))).bind fun r4 =>
   some (r4.1, ()))
  else some ((false, ()), ())
noncomputable def E50 (c125 : F125) (c18 : F18) (c124 : F124) (c32 : F32) (c109 : F109) := mkE [g125 c125, g18 c18, g124 c124, g32 c32, g109 c109]
theorem s50 (c125 : F125) (c18 : F18) (c124 : F124) (c32 : F32) (c109 : F109)  (y) : tevF (E50 c125 c18 c124 c32 c109 ) Tryz.f50 i50 o50 y = m50 c125 c18 c124 c32 c109  y := by kernel_rfl
noncomputable def r50 : F50 := m50 r125 r18 r124 r32 r109 
theorem k50 : CK Tryz.prog (g50 r50) := fn0 (s50 r125 r18 r124 r32 r109) (fnsL_ok ⟨k125, k18, k124, k32, k109, trivial⟩) rfl mixed (by kernel_rfl) (by kernel_rfl) (by kernel_rfl)
@[reducible] def i13 : List Ty := [.a q6]
@[reducible] def o13 : List Ty := [.v (.bool)]
abbrev R13 := Option (PTup o13 × BTup i13)
abbrev F13 := PTup i13 → R13
abbrev g13 (c : F13) : Nat × Tev.Fn := (13, ⟨i13, o13, c, .nor⟩)
noncomputable def m13 (c50 : F50) (c19 : F19) (c15 : F15) (c17 : F17) (c49 : F49)  (y : PTup i13) : Option (PTup o13 × BTup i13) :=
  (c15 (y.1, ((1048576 : Int), ()))).bind fun r0 =>
  bif (ltI r0.1.1 (0 : Int)) then (some ((true, ()), ()))
  else (c17 (y.1, ())).bind fun r1 =>
  (c49 (r1.1.1, ())).bind fun r2 =>
  (c17 (y.1, ())).bind fun r3 =>
  (c50 (r3.1.1, ())).bind fun r4 =>
  bif (!(r4.1.1 == r2.1.1)) then (some ((false, ()), ()))
  else (c17 (y.1, ())).bind fun r5 =>
  (c19 (r3.1.1, (r5.1.1, ()))).bind fun r6 =>
  bif (!r6.1.1) then (some ((false, ()), ()))
  else some ((true, ()), ())
noncomputable def E13 (c50 : F50) (c19 : F19) (c15 : F15) (c17 : F17) (c49 : F49) := mkE [g50 c50, g19 c19, g15 c15, g17 c17, g49 c49]
theorem s13 (c50 : F50) (c19 : F19) (c15 : F15) (c17 : F17) (c49 : F49)  (y) : tevF (E13 c50 c19 c15 c17 c49 ) Tryz.f13 i13 o13 y = m13 c50 c19 c15 c17 c49  y := by kernel_rfl
noncomputable def r13 : F13 := m13 r50 r19 r15 r17 r49 
theorem k13 : CK Tryz.prog (g13 r13) := fn0 (s13 r50 r19 r15 r17 r49) (fnsL_ok ⟨k50, k19, k15, k17, k49, trivial⟩) rfl mixed (by kernel_rfl) (by kernel_rfl) (by kernel_rfl)
end Go.Proofs.YtanoofbkhddokaaGreat.Plain
