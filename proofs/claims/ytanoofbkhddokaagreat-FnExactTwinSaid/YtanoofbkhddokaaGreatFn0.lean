/- Plain functions that the program's functions answer as; their contracts. Printed by a program of the proofs' writer. No condition. -/
import Derived.Test.YtanoofbkhddokaaGreatUf
import Derived.KernelRfl
import Derived.Test.YtanoofbkhddokaaGreatProg
set_option linter.unusedVariables false
set_option linter.unusedSimpArgs false
set_option maxRecDepth 100000
namespace Go.Proofs.YtanoofbkhddokaaGreat.Plain
open Go Go.Tev
theorem mixed : Tryz.prog.follows .mixedOrders = true := by kernel_rfl
noncomputable abbrev mkE (l : List (Nat × Tev.Fn)) : CEnv := ⟨⟨Tryz.prog, fnsL l⟩, loopsL []⟩
@[reducible] def q0 : List LT := [.sl false .n]
@[reducible] def q1 : List LT := [.sl false .i, .int .i64]
@[reducible] def q2 : List LT := [.int .i64, .int .i64, .int .i64, .int .i64, .int .i64, .bool, .sl false .i, .sl false .i]
@[reducible] def q3 : List LT := [.int .i64, .sl false .t]
@[reducible] def q4 : List LT := [.int .i64, .int .i64, .int .i64, .int .i64, .int .i64, .bool, .sl false .i, .sl false .i, .int .i64, .sl false .t, .sl false .n]
@[reducible] def q5 : List LT := [.int .i64, .int .i64, .int .i64, .int .i64, .int .i64, .bool, .bool, .int .i64, .sl false .t, .sl false .i]
@[reducible] def q6 : List LT := [.sl false .n, .sl false .i, .sl false .i, .int .i64, .int .i64, .int .i64, .int .i64, .int .i64, .bool, .bool, .bool, .bool, .bool, .int .i64, .int .i64, .bool, .int .i64, .bool, .int .i64, .int .i64, .sl false .i, .int .i64, .int .i64, .int .i64, .int .i64, .int .i64, .bool, .sl false .i, .sl false .i, .int .i64, .sl false .t, .sl false .n, .int .i64, .int .i64, .int .i64, .int .i64, .int .i64, .bool, .bool, .int .i64, .sl false .t, .sl false .i]
@[reducible] def q7 : List LT := [.sl true .i, .int .i64]
@[reducible] def q8 : List LT := [.int .i64, .int .i64, .int .i64, .int .i64, .bool, .bool, .bool, .bool]
@[reducible] def q9 : List LT := [.bool, .int .i64]
@[reducible] def q10 : List LT := [.int .i64, .int .i64, .int .i64, .int .i64, .int .i64, .bool, .sl true .i, .sl true .i]
@[reducible] def q11 : List LT := [.int .i64, .int .i64, .int .i64]
@[reducible] def q12 : List LT := [.int .i64, .int .i64, .int .i64, .int .i64, .int .i64, .bool, .bool]
@[reducible] def q13 : List LT := [.sl false .n, .sl false .i, .sl false .i, .int .i64, .int .i64, .int .i64, .int .i64, .int .i64, .bool, .bool, .bool, .bool, .int .i64, .int .i64, .int .i64, .int .i64, .int .i64, .bool, .sl false .i, .sl false .i, .int .i64, .int .i64, .int .i64, .int .i64, .int .i64, .bool, .bool, .bool, .int .i64, .bool, .int .i64, .sl false .n, .sl false .i, .sl false .i]
@[reducible] def q14 : List LT := [.sl true .n, .sl true .i, .sl true .i, .int .i64, .int .i64, .int .i64, .int .i64, .int .i64, .bool, .bool, .bool, .bool, .int .i64, .int .i64, .int .i64, .int .i64, .int .i64, .bool, .sl true .i, .sl true .i, .int .i64, .int .i64, .int .i64, .int .i64, .int .i64, .bool, .bool, .bool, .int .i64, .bool, .int .i64, .sl true .n, .sl true .i, .sl true .i]
@[reducible] def q15 : List LT := [.int .i64, .int .i64]
@[reducible] def q16 : List LT := [.sl false .n, .sl false .i, .sl false .i, .int .i64, .int .i64, .int .i64, .int .i64, .int .i64, .bool, .bool, .bool, .bool, .int .i64, .int .i64, .int .i64, .int .i64, .int .i64, .bool, .sl false .i, .sl true .i, .int .i64, .int .i64, .int .i64, .int .i64, .int .i64, .bool, .bool, .bool, .int .i64, .bool, .int .i64, .sl true .n, .sl true .i, .sl false .i]
@[reducible] def q17 : List LT := [.sl false .n, .sl false .i, .sl true .i, .int .i64, .int .i64, .int .i64, .int .i64, .int .i64, .bool, .bool, .bool, .bool, .int .i64, .int .i64, .int .i64, .int .i64, .int .i64, .bool, .sl true .i, .sl true .i, .int .i64, .int .i64, .int .i64, .int .i64, .int .i64, .bool, .bool, .bool, .int .i64, .bool, .int .i64, .sl true .n, .sl true .i, .sl true .i]
@[reducible] def i54 : List Ty := [.v (.sl false .i), .v (.int .i64)]
@[reducible] def o54 : List Ty := [.v (.int .i64)]
abbrev R54 := Option (PTup o54 × BTup i54)
abbrev F54 := PTup i54 → R54
abbrev g54 (c : F54) : Nat × Tev.Fn := (54, ⟨i54, o54, c, .nor⟩)
noncomputable def m54   (y : PTup i54) : Option (PTup o54 × BTup i54) :=
  bif (ltI (wI (y.2.1 - (lenI y.1))) (0 : Int)) then (some (((-(1 : Int)), ()), ()))
  else some (((wI (y.2.1 - (lenI y.1))), ()), ())
noncomputable def E54  := mkE []
theorem s54   (y) : tevF (E54  ) Tryz.f54 i54 o54 y = m54   y := by kernel_rfl
noncomputable def r54 : F54 := m54  
theorem k54 : CK Tryz.prog (g54 r54) := fn0 (s54 ) (fnsL_ok trivial) rfl mixed (by kernel_rfl) (by kernel_rfl) (by kernel_rfl)
@[reducible] def i130 : List Ty := [.v (.sl false .n), .v (.int .i64)]
@[reducible] def o130 : List Ty := [.v (.int .i64)]
abbrev R130 := Option (PTup o130 × BTup i130)
abbrev F130 := PTup i130 → R130
abbrev g130 (c : F130) : Nat × Tev.Fn := (130, ⟨i130, o130, c, .nor⟩)
@[reducible] def lc130_0 : List Ty := [.v (.sl false .n)]
@[reducible] def lb130_0 : List Ty := []
@[reducible] def lv130_0 : List Ty := [.v (.int .i64), .v (.int .i64)]
@[reducible] def lr130_0 : List Ty := [.v (.int .i64)]
abbrev R130_0 := Option (Sum (PTup lv130_0) (PTup lr130_0) × BTup lb130_0)
abbrev B130_0 := PTup lb130_0 → PTup lv130_0 → R130_0
abbrev A130_0 := PTup lc130_0 → B130_0
noncomputable def w130_0 (c54 : F54)  (again : B130_0) (x : PTup lc130_0) (y : PTup lb130_0) (z : PTup lv130_0) : R130_0 :=
  bif (ltI z.2.1 (lenI x.1)) then (bif (leI (0 : Int) z.2.1) then (bif (ltI z.2.1 (lenI x.1)) then ((c54 ((rdE .n x.1 z.2.1), (z.1, ()))).bind fun r0 =>
     bif (ltI r0.1.1 (0 : Int)) then (some ((Sum.inr ((-(1 : Int)), ())), ()))
     else again () (r0.1.1, ((wI (z.2.1 + (1 : Int))), ())))
    else none)
   else none)
  else some ((Sum.inl z), ())
noncomputable def e130_0 (l : A130_0) : LoopE := ⟨[0], lc130_0, [], lb130_0, [1, 5], lv130_0, [4], lr130_0, 0, [], l⟩
noncomputable def m130 (c54 : F54) (l0 : A130_0) (y : PTup i130) : Option (PTup o130 × BTup i130) :=
  bif (ltI (wI (y.2.1 - (lenI y.1))) (0 : Int)) then (some (((-(1 : Int)), ()), ()))
  else (l0 (y.1, ()) () ((wI (y.2.1 - (lenI y.1))), ((0 : Int), ()))).bind fun r0 =>
  sumElim r0.1 (fun r1 => some ((r1.1, ()), ()))
  (fun r1 => some (r1, ()))
noncomputable def E130 (c54 : F54) (l0 : A130_0) : CEnv := ⟨⟨Tryz.prog, fnsL [g54 c54]⟩, loopsL [(5, e130_0 l0)]⟩
theorem t130_0 (c54 : F54) (l0 : A130_0) (again) (x y z) : loopRound (E130 c54 l0) (loopAt (bodyOf Tryz.f130) 0) (e130_0 l0) Tryz.f130.ntmps again x y z = w130_0 c54  again x y z := by kernel_rfl
noncomputable def n130_0 (c54 : F54)  : Nat → A130_0
  | 0, _, _, _ => none
  | n + 1, x, y, z => w130_0 c54  (fun y z => n130_0 c54  n x y z) x y z
theorem s130 (c54 : F54) (l0 : A130_0) (y) : tevF (E130 c54 l0) Tryz.f130 i130 o130 y = m130 c54 l0 y := by kernel_rfl
noncomputable def L130_0 : A130_0 := n130_0 r54  fuel
noncomputable def r130 : F130 := m130 r54 L130_0
theorem k130 : CK Tryz.prog (g130 r130) := by
  have hE : ∀ g f, (E130 r54 L130_0).env.fns g = some f → CallOk Tryz.prog g f := fnsL_ok ⟨k54, trivial⟩
  have h0 : LoopOk Tryz.prog Tryz.f130.ntmps (loopAt (bodyOf Tryz.f130) 0) (e130_0 L130_0) := lp_ok (E := E130 r54 L130_0) rfl hE mixed (AllLoops.of_list (l := []) (by kernel_rfl) trivial) (n130_0 r54 ) (fun _ _ _ => rfl) (fun n x y z => t130_0 r54 L130_0 _ x y z) rfl
  exact fn_ok (E := E130 r54 L130_0) rfl hE mixed (by kernel_rfl) (by kernel_rfl) (AllLoops.of_list (l := [(loopAt (bodyOf Tryz.f130) 0)]) (by kernel_rfl) (.one (by kernel_rfl) h0 trivial)) (s130 r54 L130_0)
@[reducible] def i53 : List Ty := [.a q0, .v (.int .i64)]
@[reducible] def o53 : List Ty := [.v (.int .i64)]
abbrev R53 := Option (PTup o53 × BTup i53)
abbrev F53 := PTup i53 → R53
abbrev g53 (c : F53) : Nat × Tev.Fn := (53, ⟨i53, o53, c, .nor⟩)
noncomputable def m53 (c130 : F130)  (y : PTup i53) : Option (PTup o53 × BTup i53) :=
  (c130 (y.1.1, y.2)).bind fun r0 =>
  bif (ltI r0.1.1 (0 : Int)) then (some (((-(1 : Int)), ()), ()))
  else some (r0.1, ())
noncomputable def E53 (c130 : F130) := mkE [g130 c130]
theorem s53 (c130 : F130)  (y) : tevF (E53 c130 ) Tryz.f53 i53 o53 y = m53 c130  y := by kernel_rfl
noncomputable def r53 : F53 := m53 r130 
theorem k53 : CK Tryz.prog (g53 r53) := fn0 (s53 r130) (fnsL_ok ⟨k130, trivial⟩) rfl mixed (by kernel_rfl) (by kernel_rfl) (by kernel_rfl)
@[reducible] def i55 : List Ty := [.a q1, .v (.int .i64)]
@[reducible] def o55 : List Ty := [.v (.int .i64)]
abbrev R55 := Option (PTup o55 × BTup i55)
abbrev F55 := PTup i55 → R55
abbrev g55 (c : F55) : Nat × Tev.Fn := (55, ⟨i55, o55, c, .nor⟩)
noncomputable def m55 (c54 : F54)  (y : PTup i55) : Option (PTup o55 × BTup i55) :=
  (c54 (y.1.1, y.2)).bind fun r0 =>
  bif (ltI r0.1.1 (0 : Int)) then (some (((-(1 : Int)), ()), ()))
  else some (r0.1, ())
noncomputable def E55 (c54 : F54) := mkE [g54 c54]
theorem s55 (c54 : F54)  (y) : tevF (E55 c54 ) Tryz.f55 i55 o55 y = m55 c54  y := by kernel_rfl
noncomputable def r55 : F55 := m55 r54 
theorem k55 : CK Tryz.prog (g55 r55) := fn0 (s55 r54) (fnsL_ok ⟨k54, trivial⟩) rfl mixed (by kernel_rfl) (by kernel_rfl) (by kernel_rfl)
@[reducible] def i85 : List Ty := [.a q2, .v (.int .i64)]
@[reducible] def o85 : List Ty := [.v (.int .i64)]
abbrev R85 := Option (PTup o85 × BTup i85)
abbrev F85 := PTup i85 → R85
abbrev g85 (c : F85) : Nat × Tev.Fn := (85, ⟨i85, o85, c, .nor⟩)
noncomputable def m85 (c54 : F54)  (y : PTup i85) : Option (PTup o85 × BTup i85) :=
  (c54 (y.1.2.2.2.2.2.2.1, y.2)).bind fun r0 =>
  bif (ltI r0.1.1 (0 : Int)) then (some (((-(1 : Int)), ()), ()))
  else (c54 (y.1.2.2.2.2.2.2.2.1, r0.1)).bind fun r1 =>
  bif (ltI r1.1.1 (0 : Int)) then (some (((-(1 : Int)), ()), ()))
  else some (r1.1, ())
noncomputable def E85 (c54 : F54) := mkE [g54 c54]
theorem s85 (c54 : F54)  (y) : tevF (E85 c54 ) Tryz.f85 i85 o85 y = m85 c54  y := by kernel_rfl
noncomputable def r85 : F85 := m85 r54 
theorem k85 : CK Tryz.prog (g85 r85) := fn0 (s85 r54) (fnsL_ok ⟨k54, trivial⟩) rfl mixed (by kernel_rfl) (by kernel_rfl) (by kernel_rfl)
@[reducible] def i229 : List Ty := [.v (.sl false .t), .v (.int .i64)]
@[reducible] def o229 : List Ty := [.v (.int .i64)]
abbrev R229 := Option (PTup o229 × BTup i229)
abbrev F229 := PTup i229 → R229
abbrev g229 (c : F229) : Nat × Tev.Fn := (229, ⟨i229, o229, c, .nor⟩)
noncomputable def m229   (y : PTup i229) : Option (PTup o229 × BTup i229) :=
  bif (ltI (wI (y.2.1 - (lenI y.1))) (0 : Int)) then (some (((-(1 : Int)), ()), ()))
  else some (((wI (y.2.1 - (lenI y.1))), ()), ())
noncomputable def E229  := mkE []
theorem s229   (y) : tevF (E229  ) Tryz.f229 i229 o229 y = m229   y := by kernel_rfl
noncomputable def r229 : F229 := m229  
theorem k229 : CK Tryz.prog (g229 r229) := fn0 (s229 ) (fnsL_ok trivial) rfl mixed (by kernel_rfl) (by kernel_rfl) (by kernel_rfl)
@[reducible] def i131 : List Ty := [.a q3, .v (.int .i64)]
@[reducible] def o131 : List Ty := [.v (.int .i64)]
abbrev R131 := Option (PTup o131 × BTup i131)
abbrev F131 := PTup i131 → R131
abbrev g131 (c : F131) : Nat × Tev.Fn := (131, ⟨i131, o131, c, .nor⟩)
noncomputable def m131 (c229 : F229)  (y : PTup i131) : Option (PTup o131 × BTup i131) :=
  (c229 (y.1.2.1, y.2)).bind fun r0 =>
  bif (ltI r0.1.1 (0 : Int)) then (some (((-(1 : Int)), ()), ()))
  else some (r0.1, ())
noncomputable def E131 (c229 : F229) := mkE [g229 c229]
theorem s131 (c229 : F229)  (y) : tevF (E131 c229 ) Tryz.f131 i131 o131 y = m131 c229  y := by kernel_rfl
noncomputable def r131 : F131 := m131 r229 
theorem k131 : CK Tryz.prog (g131 r131) := fn0 (s131 r229) (fnsL_ok ⟨k229, trivial⟩) rfl mixed (by kernel_rfl) (by kernel_rfl) (by kernel_rfl)
@[reducible] def i56 : List Ty := [.a q4, .v (.int .i64)]
@[reducible] def o56 : List Ty := [.v (.int .i64)]
abbrev R56 := Option (PTup o56 × BTup i56)
abbrev F56 := PTup i56 → R56
abbrev g56 (c : F56) : Nat × Tev.Fn := (56, ⟨i56, o56, c, .nor⟩)
noncomputable def m56 (c130 : F130) (c85 : F85) (c131 : F131)  (y : PTup i56) : Option (PTup o56 × BTup i56) :=
  (c85 ((y.1.1, (y.1.2.1, (y.1.2.2.1, (y.1.2.2.2.1, (y.1.2.2.2.2.1, (y.1.2.2.2.2.2.1, (y.1.2.2.2.2.2.2.1, (y.1.2.2.2.2.2.2.2.1, ())))))))), y.2)).bind fun r0 =>
  bif (ltI r0.1.1 (0 : Int)) then (some (((-(1 : Int)), ()), ()))
  else (c131 ((y.1.2.2.2.2.2.2.2.2.1, (y.1.2.2.2.2.2.2.2.2.2.1, ())), r0.1)).bind fun r1 =>
  bif (ltI r1.1.1 (0 : Int)) then (some (((-(1 : Int)), ()), ()))
  else (c130 (y.1.2.2.2.2.2.2.2.2.2.2.1, r1.1)).bind fun r2 =>
  bif (ltI r2.1.1 (0 : Int)) then (some (((-(1 : Int)), ()), ()))
  else some (r2.1, ())
noncomputable def E56 (c130 : F130) (c85 : F85) (c131 : F131) := mkE [g130 c130, g85 c85, g131 c131]
theorem s56 (c130 : F130) (c85 : F85) (c131 : F131)  (y) : tevF (E56 c130 c85 c131 ) Tryz.f56 i56 o56 y = m56 c130 c85 c131  y := by kernel_rfl
noncomputable def r56 : F56 := m56 r130 r85 r131 
theorem k56 : CK Tryz.prog (g56 r56) := fn0 (s56 r130 r85 r131) (fnsL_ok ⟨k130, k85, k131, trivial⟩) rfl mixed (by kernel_rfl) (by kernel_rfl) (by kernel_rfl)
@[reducible] def i57 : List Ty := [.a q5, .v (.int .i64)]
@[reducible] def o57 : List Ty := [.v (.int .i64)]
abbrev R57 := Option (PTup o57 × BTup i57)
abbrev F57 := PTup i57 → R57
abbrev g57 (c : F57) : Nat × Tev.Fn := (57, ⟨i57, o57, c, .nor⟩)
noncomputable def m57 (c54 : F54) (c131 : F131)  (y : PTup i57) : Option (PTup o57 × BTup i57) :=
  (c131 ((y.1.2.2.2.2.2.2.2.1, (y.1.2.2.2.2.2.2.2.2.1, ())), y.2)).bind fun r0 =>
  bif (ltI r0.1.1 (0 : Int)) then (some (((-(1 : Int)), ()), ()))
  else (c54 (y.1.2.2.2.2.2.2.2.2.2.1, r0.1)).bind fun r1 =>
  bif (ltI r1.1.1 (0 : Int)) then (some (((-(1 : Int)), ()), ()))
  else some (r1.1, ())
noncomputable def E57 (c54 : F54) (c131 : F131) := mkE [g54 c54, g131 c131]
theorem s57 (c54 : F54) (c131 : F131)  (y) : tevF (E57 c54 c131 ) Tryz.f57 i57 o57 y = m57 c54 c131  y := by kernel_rfl
noncomputable def r57 : F57 := m57 r54 r131 
theorem k57 : CK Tryz.prog (g57 r57) := fn0 (s57 r54 r131) (fnsL_ok ⟨k54, k131, trivial⟩) rfl mixed (by kernel_rfl) (by kernel_rfl) (by kernel_rfl)
@[reducible] def i15 : List Ty := [.a q6, .v (.int .i64)]
@[reducible] def o15 : List Ty := [.v (.int .i64)]
abbrev R15 := Option (PTup o15 × BTup i15)
abbrev F15 := PTup i15 → R15
abbrev g15 (c : F15) : Nat × Tev.Fn := (15, ⟨i15, o15, c, .nor⟩)
noncomputable def m15 (c53 : F53) (c54 : F54) (c55 : F55) (c56 : F56) (c57 : F57)  (y : PTup i15) : Option (PTup o15 × BTup i15) :=
  let a0 := y.1; let a1 := a0.2; let a2 := a1.2; let a3 := a2.2; let a4 := a3.2; let a5 := a4.2; let a6 := a5.2; let a7 := a6.2; let a8 := a7.2; let a9 := a8.2; let a10 := a9.2.2; let a11 := a10.2; let a12 := a11.2; let a13 := a12.2; let a14 := a13.2; let a15 := a14.2; let a16 := a15.2; let a17 := a16.2; let a18 := a17.2; let a19 := a18.2; let a20 := a19.2; let a21 := a20.2; let a22 := a21.2; let a23 := a22.2.2; let a24 := a23.2.2; (c53 ((a0.1, ()), y.2)).bind fun r0 =>
  bif (ltI r0.1.1 (0 : Int)) then (some (((-(1 : Int)), ()), ()))
  else (c54 (a1.1, r0.1)).bind fun r1 =>
  bif (ltI r1.1.1 (0 : Int)) then (some (((-(1 : Int)), ()), ()))
  else (c55 ((a2.1, (a3.1, ())), r1.1)).bind fun r2 =>
  bif (ltI r2.1.1 (0 : Int)) then (some (((-(1 : Int)), ()), ()))
  else (c54 (a19.1, r2.1)).bind fun r3 =>
  bif (ltI r3.1.1 (0 : Int)) then (some (((-(1 : Int)), ()), ()))
  else (c56 ((a20.1, (a21.1, (a22.1, (a22.2.1, (a23.1, (a23.2.1, (a24.1, (a24.2.1, (a24.2.2.1, (a24.2.2.2.1, (a24.2.2.2.2.1, ()))))))))))), r3.1)).bind fun r4 =>
  bif (ltI r4.1.1 (0 : Int)) then (some (((-(1 : Int)), ()), ()))
  else (c57 (a24.2.2.2.2.2, r4.1)).bind fun r5 =>
  bif (ltI r5.1.1 (0 : Int)) then (some (((-(1 : Int)), ()), ()))
  else some (r5.1, ())
noncomputable def E15 (c53 : F53) (c54 : F54) (c55 : F55) (c56 : F56) (c57 : F57) := mkE [g53 c53, g54 c54, g55 c55, g56 c56, g57 c57]
theorem s15 (c53 : F53) (c54 : F54) (c55 : F55) (c56 : F56) (c57 : F57)  (y) : tevF (E15 c53 c54 c55 c56 c57 ) Tryz.f15 i15 o15 y = m15 c53 c54 c55 c56 c57  y := by kernel_rfl
noncomputable def r15 : F15 := m15 r53 r54 r55 r56 r57 
theorem k15 : CK Tryz.prog (g15 r15) := fn0 (s15 r53 r54 r55 r56 r57) (fnsL_ok ⟨k53, k54, k55, k56, k57, trivial⟩) rfl mixed (by kernel_rfl) (by kernel_rfl) (by kernel_rfl)
@[reducible] def i41 : List Ty := [.v (.sl false .i)]
@[reducible] def o41 : List Ty := [.v (.sl true .i)]
abbrev R41 := Option (PTup o41 × BTup i41)
abbrev F41 := PTup i41 → R41
abbrev g41 (c : F41) : Nat × Tev.Fn := (41, ⟨i41, o41, c, .nor⟩)
@[reducible] def lc41_0 : List Ty := [.v (.sl false .i)]
@[reducible] def lb41_0 : List Ty := []
@[reducible] def lv41_0 : List Ty := [.v (.int .i64), .v (.sl true .i)]
@[reducible] def lr41_0 : List Ty := []
abbrev R41_0 := Option (Sum (PTup lv41_0) (PTup lr41_0) × BTup lb41_0)
abbrev B41_0 := PTup lb41_0 → PTup lv41_0 → R41_0
abbrev A41_0 := PTup lc41_0 → B41_0
noncomputable def w41_0   (again : B41_0) (x : PTup lc41_0) (y : PTup lb41_0) (z : PTup lv41_0) : R41_0 :=
  bif (ltI z.1 (lenI x.1)) then (bif (leI (0 : Int) z.1) then (bif (ltI z.1 (lenI x.1)) then (bif (leI (0 : Int) z.1) then (bif (ltI z.1 (lenI z.2.1)) then (again () ((wI (z.1 + (1 : Int))), ((List.set z.2.1 (Int.toNat z.1) (rdE .i x.1 z.1)), ())))
      else none)
     else none)
    else none)
   else none)
  else some ((Sum.inl z), ())
noncomputable def e41_0 (l : A41_0) : LoopE := ⟨[0], lc41_0, [], lb41_0, [4, 3], lv41_0, [], lr41_0, 0, [], l⟩
noncomputable def m41  (l0 : A41_0) (y : PTup i41) : Option (PTup o41 × BTup i41) :=
  bif (leN (Int.toNat (lenI y.1)) (E.most .i)) then ((l0 y () ((0 : Int), ((List.replicate (Int.toNat (lenI y.1)) (0 : Int)), ()))).bind fun r0 =>
   sumElim r0.1 (fun r1 => some (r1.2, ()))
   (fun r1 => some (([], ()), ())))
  else none
noncomputable def E41  (l0 : A41_0) : CEnv := ⟨⟨Tryz.prog, fnsL []⟩, loopsL [(3, e41_0 l0)]⟩
theorem t41_0  (l0 : A41_0) (again) (x y z) : loopRound (E41  l0) (loopAt (bodyOf Tryz.f41) 0) (e41_0 l0) Tryz.f41.ntmps again x y z = w41_0   again x y z := by kernel_rfl
noncomputable def n41_0   : Nat → A41_0
  | 0, _, _, _ => none
  | n + 1, x, y, z => w41_0   (fun y z => n41_0   n x y z) x y z
theorem s41  (l0 : A41_0) (y) : tevF (E41  l0) Tryz.f41 i41 o41 y = m41  l0 y := by kernel_rfl
noncomputable def L41_0 : A41_0 := n41_0   fuel
noncomputable def r41 : F41 := m41  L41_0
theorem k41 : CK Tryz.prog (g41 r41) := by
  have hE : ∀ g f, (E41  L41_0).env.fns g = some f → CallOk Tryz.prog g f := fnsL_ok trivial
  have h0 : LoopOk Tryz.prog Tryz.f41.ntmps (loopAt (bodyOf Tryz.f41) 0) (e41_0 L41_0) := lp_ok (E := E41  L41_0) rfl hE mixed (AllLoops.of_list (l := []) (by kernel_rfl) trivial) (n41_0  ) (fun _ _ _ => rfl) (fun n x y z => t41_0  L41_0 _ x y z) rfl
  exact fn_ok (E := E41  L41_0) rfl hE mixed (by kernel_rfl) (by kernel_rfl) (AllLoops.of_list (l := [(loopAt (bodyOf Tryz.f41) 0)]) (by kernel_rfl) (.one (by kernel_rfl) h0 trivial)) (s41  L41_0)
@[reducible] def i144 : List Ty := [.v (.sl false .n)]
@[reducible] def o144 : List Ty := [.v (.sl true .n)]
abbrev R144 := Option (PTup o144 × BTup i144)
abbrev F144 := PTup i144 → R144
abbrev g144 (c : F144) : Nat × Tev.Fn := (144, ⟨i144, o144, c, .nor⟩)
@[reducible] def lc144_0 : List Ty := [.v (.sl false .n)]
@[reducible] def lb144_0 : List Ty := []
@[reducible] def lv144_0 : List Ty := [.v (.int .i64), .v (.sl true .n)]
@[reducible] def lr144_0 : List Ty := []
abbrev R144_0 := Option (Sum (PTup lv144_0) (PTup lr144_0) × BTup lb144_0)
abbrev B144_0 := PTup lb144_0 → PTup lv144_0 → R144_0
abbrev A144_0 := PTup lc144_0 → B144_0
noncomputable def w144_0 (c41 : F41)  (again : B144_0) (x : PTup lc144_0) (y : PTup lb144_0) (z : PTup lv144_0) : R144_0 :=
  bif (ltI z.1 (lenI x.1)) then (bif (leI (0 : Int) z.1) then (bif (ltI z.1 (lenI x.1)) then ((c41 ((rdE .n x.1 z.1), ())).bind fun r0 =>
     bif (leI (0 : Int) z.1) then (bif (ltI z.1 (lenI z.2.1)) then (again () ((wI (z.1 + (1 : Int))), ((List.set z.2.1 (Int.toNat z.1) r0.1.1), ())))
      else none)
     else none)
    else none)
   else none)
  else some ((Sum.inl z), ())
noncomputable def e144_0 (l : A144_0) : LoopE := ⟨[0], lc144_0, [], lb144_0, [4, 3], lv144_0, [], lr144_0, 0, [], l⟩
noncomputable def m144 (c41 : F41) (l0 : A144_0) (y : PTup i144) : Option (PTup o144 × BTup i144) :=
  bif (leN (Int.toNat (lenI y.1)) (E.most .n)) then ((l0 y () ((0 : Int), ((List.replicate (Int.toNat (lenI y.1)) []), ()))).bind fun r0 =>
   sumElim r0.1 (fun r1 => some (r1.2, ()))
   (fun r1 => some (([], ()), ())))
  else none
noncomputable def E144 (c41 : F41) (l0 : A144_0) : CEnv := ⟨⟨Tryz.prog, fnsL [g41 c41]⟩, loopsL [(3, e144_0 l0)]⟩
theorem t144_0 (c41 : F41) (l0 : A144_0) (again) (x y z) : loopRound (E144 c41 l0) (loopAt (bodyOf Tryz.f144) 0) (e144_0 l0) Tryz.f144.ntmps again x y z = w144_0 c41  again x y z := by kernel_rfl
noncomputable def n144_0 (c41 : F41)  : Nat → A144_0
  | 0, _, _, _ => none
  | n + 1, x, y, z => w144_0 c41  (fun y z => n144_0 c41  n x y z) x y z
theorem s144 (c41 : F41) (l0 : A144_0) (y) : tevF (E144 c41 l0) Tryz.f144 i144 o144 y = m144 c41 l0 y := by kernel_rfl
noncomputable def L144_0 : A144_0 := n144_0 r41  fuel
noncomputable def r144 : F144 := m144 r41 L144_0
theorem k144 : CK Tryz.prog (g144 r144) := by
  have hE : ∀ g f, (E144 r41 L144_0).env.fns g = some f → CallOk Tryz.prog g f := fnsL_ok ⟨k41, trivial⟩
  have h0 : LoopOk Tryz.prog Tryz.f144.ntmps (loopAt (bodyOf Tryz.f144) 0) (e144_0 L144_0) := lp_ok (E := E144 r41 L144_0) rfl hE mixed (AllLoops.of_list (l := []) (by kernel_rfl) trivial) (n144_0 r41 ) (fun _ _ _ => rfl) (fun n x y z => t144_0 r41 L144_0 _ x y z) rfl
  exact fn_ok (E := E144 r41 L144_0) rfl hE mixed (by kernel_rfl) (by kernel_rfl) (AllLoops.of_list (l := [(loopAt (bodyOf Tryz.f144) 0)]) (by kernel_rfl) (.one (by kernel_rfl) h0 trivial)) (s144 r41 L144_0)
@[reducible] def i62 : List Ty := [.a q0]
@[reducible] def o62 : List Ty := [.a [.sl true .n]]
abbrev R62 := Option (PTup o62 × BTup i62)
abbrev F62 := PTup i62 → R62
abbrev g62 (c : F62) : Nat × Tev.Fn := (62, ⟨i62, o62, c, .nor⟩)
noncomputable def m62 (c144 : F144)  (y : PTup i62) : Option (PTup o62 × BTup i62) :=
  (c144 y.1).bind fun r0 =>
  some ((r0.1, ()), ())
noncomputable def E62 (c144 : F144) := mkE [g144 c144]
theorem s62 (c144 : F144)  (y) : tevF (E62 c144 ) Tryz.f62 i62 o62 y = m62 c144  y := by kernel_rfl
noncomputable def r62 : F62 := m62 r144 
theorem k62 : CK Tryz.prog (g62 r62) := fn0 (s62 r144) (fnsL_ok ⟨k144, trivial⟩) rfl mixed (by kernel_rfl) (by kernel_rfl) (by kernel_rfl)
@[reducible] def i63 : List Ty := [.a q1]
@[reducible] def o63 : List Ty := [.a q7]
abbrev R63 := Option (PTup o63 × BTup i63)
abbrev F63 := PTup i63 → R63
abbrev g63 (c : F63) : Nat × Tev.Fn := (63, ⟨i63, o63, c, .nor⟩)
noncomputable def m63 (c41 : F41)  (y : PTup i63) : Option (PTup o63 × BTup i63) :=
  (c41 (y.1.1, ())).bind fun r0 =>
  some (((r0.1.1, y.1.2), ()), ())
noncomputable def E63 (c41 : F41) := mkE [g41 c41]
theorem s63 (c41 : F41)  (y) : tevF (E63 c41 ) Tryz.f63 i63 o63 y = m63 c41  y := by kernel_rfl
noncomputable def r63 : F63 := m63 r41 
theorem k63 : CK Tryz.prog (g63 r63) := fn0 (s63 r41) (fnsL_ok ⟨k41, trivial⟩) rfl mixed (by kernel_rfl) (by kernel_rfl) (by kernel_rfl)
@[reducible] def i64 : List Ty := [.a q8]
@[reducible] def o64 : List Ty := [.a q8]
abbrev R64 := Option (PTup o64 × BTup i64)
abbrev F64 := PTup i64 → R64
abbrev g64 (c : F64) : Nat × Tev.Fn := (64, ⟨i64, o64, c, .nor⟩)
noncomputable def m64   (y : PTup i64) : Option (PTup o64 × BTup i64) :=
  some ((y.1, ()), ())
noncomputable def E64  := mkE []
theorem s64   (y) : tevF (E64  ) Tryz.f64 i64 o64 y = m64   y := by kernel_rfl
noncomputable def r64 : F64 := m64  
theorem k64 : CK Tryz.prog (g64 r64) := fn0 (s64 ) (fnsL_ok trivial) rfl mixed (by kernel_rfl) (by kernel_rfl) (by kernel_rfl)
@[reducible] def i65 : List Ty := [.a q9]
@[reducible] def o65 : List Ty := [.a q9]
abbrev R65 := Option (PTup o65 × BTup i65)
abbrev F65 := PTup i65 → R65
abbrev g65 (c : F65) : Nat × Tev.Fn := (65, ⟨i65, o65, c, .nor⟩)
noncomputable def m65   (y : PTup i65) : Option (PTup o65 × BTup i65) :=
  some ((y.1, ()), ())
noncomputable def E65  := mkE []
theorem s65   (y) : tevF (E65  ) Tryz.f65 i65 o65 y = m65   y := by kernel_rfl
noncomputable def r65 : F65 := m65  
theorem k65 : CK Tryz.prog (g65 r65) := fn0 (s65 ) (fnsL_ok trivial) rfl mixed (by kernel_rfl) (by kernel_rfl) (by kernel_rfl)
@[reducible] def i91 : List Ty := [.a q2]
@[reducible] def o91 : List Ty := [.a q10]
abbrev R91 := Option (PTup o91 × BTup i91)
abbrev F91 := PTup i91 → R91
abbrev g91 (c : F91) : Nat × Tev.Fn := (91, ⟨i91, o91, c, .nor⟩)
noncomputable def m91 (c41 : F41)  (y : PTup i91) : Option (PTup o91 × BTup i91) :=
  (c41 (y.1.2.2.2.2.2.2.1, ())).bind fun r0 =>
  (c41 y.1.2.2.2.2.2.2.2).bind fun r1 =>
  some (((y.1.1, (y.1.2.1, (y.1.2.2.1, (y.1.2.2.2.1, (y.1.2.2.2.2.1, (y.1.2.2.2.2.2.1, (r0.1.1, r1.1))))))), ()), ())
noncomputable def E91 (c41 : F41) := mkE [g41 c41]
theorem s91 (c41 : F41)  (y) : tevF (E91 c41 ) Tryz.f91 i91 o91 y = m91 c41  y := by kernel_rfl
noncomputable def r91 : F91 := m91 r41 
theorem k91 : CK Tryz.prog (g91 r91) := fn0 (s91 r41) (fnsL_ok ⟨k41, trivial⟩) rfl mixed (by kernel_rfl) (by kernel_rfl) (by kernel_rfl)
@[reducible] def i289 : List Ty := [.a q11]
@[reducible] def o289 : List Ty := [.a q11]
abbrev R289 := Option (PTup o289 × BTup i289)
abbrev F289 := PTup i289 → R289
abbrev g289 (c : F289) : Nat × Tev.Fn := (289, ⟨i289, o289, c, .nor⟩)
noncomputable def m289   (y : PTup i289) : Option (PTup o289 × BTup i289) :=
  some ((y.1, ()), ())
noncomputable def E289  := mkE []
theorem s289   (y) : tevF (E289  ) Tryz.f289 i289 o289 y = m289   y := by kernel_rfl
noncomputable def r289 : F289 := m289  
theorem k289 : CK Tryz.prog (g289 r289) := fn0 (s289 ) (fnsL_ok trivial) rfl mixed (by kernel_rfl) (by kernel_rfl) (by kernel_rfl)
@[reducible] def i233 : List Ty := [.v (.sl false .t)]
@[reducible] def o233 : List Ty := [.v (.sl true .t)]
abbrev R233 := Option (PTup o233 × BTup i233)
abbrev F233 := PTup i233 → R233
abbrev g233 (c : F233) : Nat × Tev.Fn := (233, ⟨i233, o233, c, .nor⟩)
@[reducible] def lc233_0 : List Ty := [.v (.sl false .t)]
@[reducible] def lb233_0 : List Ty := []
@[reducible] def lv233_0 : List Ty := [.v (.int .i64), .v (.sl true .t)]
@[reducible] def lr233_0 : List Ty := []
abbrev R233_0 := Option (Sum (PTup lv233_0) (PTup lr233_0) × BTup lb233_0)
abbrev B233_0 := PTup lb233_0 → PTup lv233_0 → R233_0
abbrev A233_0 := PTup lc233_0 → B233_0
noncomputable def w233_0 (c289 : F289)  (again : B233_0) (x : PTup lc233_0) (y : PTup lb233_0) (z : PTup lv233_0) : R233_0 :=
  bif (ltI z.1 (lenI x.1)) then (bif (leI (0 : Int) z.1) then (bif (ltI z.1 (lenI x.1)) then ((c289 (((rdE .t x.1 z.1).1, ((rdE .t x.1 z.1).2.1, ((rdE .t x.1 z.1).2.2, ()))), ())).bind fun r0 =>
     bif (leI (0 : Int) z.1) then (bif (ltI z.1 (lenI z.2.1)) then (again () ((wI (z.1 + (1 : Int))), ((List.set z.2.1 (Int.toNat z.1) (r0.1.1.1, (r0.1.1.2.1, r0.1.1.2.2.1))), ())))
      else none)
     else none)
    else none)
   else none)
  else some ((Sum.inl z), ())
noncomputable def e233_0 (l : A233_0) : LoopE := ⟨[0], lc233_0, [], lb233_0, [4, 3], lv233_0, [], lr233_0, 0, [], l⟩
noncomputable def m233 (c289 : F289) (l0 : A233_0) (y : PTup i233) : Option (PTup o233 × BTup i233) :=
  bif (leN (Int.toNat (lenI y.1)) (E.most .t)) then ((l0 y () ((0 : Int), ((List.replicate (Int.toNat (lenI y.1)) ((0 : Int), ((0 : Int), (0 : Int)))), ()))).bind fun r0 =>
   sumElim r0.1 (fun r1 => some (r1.2, ()))
   (fun r1 => some (([], ()), ())))
  else none
noncomputable def E233 (c289 : F289) (l0 : A233_0) : CEnv := ⟨⟨Tryz.prog, fnsL [g289 c289]⟩, loopsL [(3, e233_0 l0)]⟩
theorem t233_0 (c289 : F289) (l0 : A233_0) (again) (x y z) : loopRound (E233 c289 l0) (loopAt (bodyOf Tryz.f233) 0) (e233_0 l0) Tryz.f233.ntmps again x y z = w233_0 c289  again x y z := by kernel_rfl
noncomputable def n233_0 (c289 : F289)  : Nat → A233_0
  | 0, _, _, _ => none
  | n + 1, x, y, z => w233_0 c289  (fun y z => n233_0 c289  n x y z) x y z
theorem s233 (c289 : F289) (l0 : A233_0) (y) : tevF (E233 c289 l0) Tryz.f233 i233 o233 y = m233 c289 l0 y := by kernel_rfl
noncomputable def L233_0 : A233_0 := n233_0 r289  fuel
noncomputable def r233 : F233 := m233 r289 L233_0
theorem k233 : CK Tryz.prog (g233 r233) := by
  have hE : ∀ g f, (E233 r289 L233_0).env.fns g = some f → CallOk Tryz.prog g f := fnsL_ok ⟨k289, trivial⟩
  have h0 : LoopOk Tryz.prog Tryz.f233.ntmps (loopAt (bodyOf Tryz.f233) 0) (e233_0 L233_0) := lp_ok (E := E233 r289 L233_0) rfl hE mixed (AllLoops.of_list (l := []) (by kernel_rfl) trivial) (n233_0 r289 ) (fun _ _ _ => rfl) (fun n x y z => t233_0 r289 L233_0 _ x y z) rfl
  exact fn_ok (E := E233 r289 L233_0) rfl hE mixed (by kernel_rfl) (by kernel_rfl) (AllLoops.of_list (l := [(loopAt (bodyOf Tryz.f233) 0)]) (by kernel_rfl) (.one (by kernel_rfl) h0 trivial)) (s233 r289 L233_0)
@[reducible] def i145 : List Ty := [.a q3]
@[reducible] def o145 : List Ty := [.a [.int .i64, .sl true .t]]
abbrev R145 := Option (PTup o145 × BTup i145)
abbrev F145 := PTup i145 → R145
abbrev g145 (c : F145) : Nat × Tev.Fn := (145, ⟨i145, o145, c, .nor⟩)
noncomputable def m145 (c233 : F233)  (y : PTup i145) : Option (PTup o145 × BTup i145) :=
  (c233 y.1.2).bind fun r0 =>
  some (((y.1.1, r0.1), ()), ())
noncomputable def E145 (c233 : F233) := mkE [g233 c233]
theorem s145 (c233 : F233)  (y) : tevF (E145 c233 ) Tryz.f145 i145 o145 y = m145 c233  y := by kernel_rfl
noncomputable def r145 : F145 := m145 r233 
theorem k145 : CK Tryz.prog (g145 r145) := fn0 (s145 r233) (fnsL_ok ⟨k233, trivial⟩) rfl mixed (by kernel_rfl) (by kernel_rfl) (by kernel_rfl)
@[reducible] def i66 : List Ty := [.a q4]
@[reducible] def o66 : List Ty := [.a [.int .i64, .int .i64, .int .i64, .int .i64, .int .i64, .bool, .sl true .i, .sl true .i, .int .i64, .sl true .t, .sl true .n]]
abbrev R66 := Option (PTup o66 × BTup i66)
abbrev F66 := PTup i66 → R66
abbrev g66 (c : F66) : Nat × Tev.Fn := (66, ⟨i66, o66, c, .nor⟩)
noncomputable def m66 (c144 : F144) (c91 : F91) (c145 : F145)  (y : PTup i66) : Option (PTup o66 × BTup i66) :=
  (c91 ((y.1.1, (y.1.2.1, (y.1.2.2.1, (y.1.2.2.2.1, (y.1.2.2.2.2.1, (y.1.2.2.2.2.2.1, (y.1.2.2.2.2.2.2.1, (y.1.2.2.2.2.2.2.2.1, ())))))))), ())).bind fun r0 =>
  (c145 ((y.1.2.2.2.2.2.2.2.2.1, (y.1.2.2.2.2.2.2.2.2.2.1, ())), ())).bind fun r1 =>
  (c144 y.1.2.2.2.2.2.2.2.2.2.2).bind fun r2 =>
  some (((r0.1.1.1, (r0.1.1.2.1, (r0.1.1.2.2.1, (r0.1.1.2.2.2.1, (r0.1.1.2.2.2.2.1, (r0.1.1.2.2.2.2.2.1, (r0.1.1.2.2.2.2.2.2.1, (r0.1.1.2.2.2.2.2.2.2.1, (r1.1.1.1, (r1.1.1.2.1, r2.1)))))))))), ()), ())
noncomputable def E66 (c144 : F144) (c91 : F91) (c145 : F145) := mkE [g144 c144, g91 c91, g145 c145]
theorem s66 (c144 : F144) (c91 : F91) (c145 : F145)  (y) : tevF (E66 c144 c91 c145 ) Tryz.f66 i66 o66 y = m66 c144 c91 c145  y := by kernel_rfl
noncomputable def r66 : F66 := m66 r144 r91 r145 
theorem k66 : CK Tryz.prog (g66 r66) := fn0 (s66 r144 r91 r145) (fnsL_ok ⟨k144, k91, k145, trivial⟩) rfl mixed (by kernel_rfl) (by kernel_rfl) (by kernel_rfl)
@[reducible] def i92 : List Ty := [.a q12]
@[reducible] def o92 : List Ty := [.a q12]
abbrev R92 := Option (PTup o92 × BTup i92)
abbrev F92 := PTup i92 → R92
abbrev g92 (c : F92) : Nat × Tev.Fn := (92, ⟨i92, o92, c, .nor⟩)
noncomputable def m92   (y : PTup i92) : Option (PTup o92 × BTup i92) :=
  some ((y.1, ()), ())
noncomputable def E92  := mkE []
theorem s92   (y) : tevF (E92  ) Tryz.f92 i92 o92 y = m92   y := by kernel_rfl
noncomputable def r92 : F92 := m92  
theorem k92 : CK Tryz.prog (g92 r92) := fn0 (s92 ) (fnsL_ok trivial) rfl mixed (by kernel_rfl) (by kernel_rfl) (by kernel_rfl)
@[reducible] def i67 : List Ty := [.a q5]
@[reducible] def o67 : List Ty := [.a [.int .i64, .int .i64, .int .i64, .int .i64, .int .i64, .bool, .bool, .int .i64, .sl true .t, .sl true .i]]
abbrev R67 := Option (PTup o67 × BTup i67)
abbrev F67 := PTup i67 → R67
abbrev g67 (c : F67) : Nat × Tev.Fn := (67, ⟨i67, o67, c, .nor⟩)
noncomputable def m67 (c92 : F92) (c41 : F41) (c145 : F145)  (y : PTup i67) : Option (PTup o67 × BTup i67) :=
  (c92 ((y.1.1, (y.1.2.1, (y.1.2.2.1, (y.1.2.2.2.1, (y.1.2.2.2.2.1, (y.1.2.2.2.2.2.1, (y.1.2.2.2.2.2.2.1, ()))))))), ())).bind fun r0 =>
  (c145 ((y.1.2.2.2.2.2.2.2.1, (y.1.2.2.2.2.2.2.2.2.1, ())), ())).bind fun r1 =>
  (c41 y.1.2.2.2.2.2.2.2.2.2).bind fun r2 =>
  some (((r0.1.1.1, (r0.1.1.2.1, (r0.1.1.2.2.1, (r0.1.1.2.2.2.1, (r0.1.1.2.2.2.2.1, (r0.1.1.2.2.2.2.2.1, (r0.1.1.2.2.2.2.2.2.1, (r1.1.1.1, (r1.1.1.2.1, r2.1))))))))), ()), ())
noncomputable def E67 (c92 : F92) (c41 : F41) (c145 : F145) := mkE [g92 c92, g41 c41, g145 c145]
theorem s67 (c92 : F92) (c41 : F41) (c145 : F145)  (y) : tevF (E67 c92 c41 c145 ) Tryz.f67 i67 o67 y = m67 c92 c41 c145  y := by kernel_rfl
noncomputable def r67 : F67 := m67 r92 r41 r145 
theorem k67 : CK Tryz.prog (g67 r67) := fn0 (s67 r92 r41 r145) (fnsL_ok ⟨k92, k41, k145, trivial⟩) rfl mixed (by kernel_rfl) (by kernel_rfl) (by kernel_rfl)
@[reducible] def i17 : List Ty := [.a q6]
@[reducible] def o17 : List Ty := [.a [.sl true .n, .sl true .i, .sl true .i, .int .i64, .int .i64, .int .i64, .int .i64, .int .i64, .bool, .bool, .bool, .bool, .bool, .int .i64, .int .i64, .bool, .int .i64, .bool, .int .i64, .int .i64, .sl true .i, .int .i64, .int .i64, .int .i64, .int .i64, .int .i64, .bool, .sl true .i, .sl true .i, .int .i64, .sl true .t, .sl true .n, .int .i64, .int .i64, .int .i64, .int .i64, .int .i64, .bool, .bool, .int .i64, .sl true .t, .sl true .i]]
abbrev R17 := Option (PTup o17 × BTup i17)
abbrev F17 := PTup i17 → R17
abbrev g17 (c : F17) : Nat × Tev.Fn := (17, ⟨i17, o17, c, .nor⟩)
noncomputable def m17 (c64 : F64) (c62 : F62) (c41 : F41) (c63 : F63) (c65 : F65) (c66 : F66) (c67 : F67)  (y : PTup i17) : Option (PTup o17 × BTup i17) :=
  let a0 := y.1; let a1 := a0.2; let a2 := a1.2; let a3 := a2.2; let a4 := a3.2; let a5 := a4.2; let a6 := a5.2; let a7 := a6.2; let a8 := a7.2; let a9 := a8.2; let a10 := a9.2; let a11 := a10.2; let a12 := a11.2; let a13 := a12.2; let a14 := a13.2; let a15 := a14.2; let a16 := a15.2; let a17 := a16.2; let a18 := a17.2; let a19 := a18.2; let a20 := a19.2; let a21 := a20.2; let a22 := a21.2; let a23 := a22.2; let a24 := a23.2.2; let a25 := a24.2.2; (c62 ((a0.1, ()), ())).bind fun r0 =>
  (c41 (a1.1, ())).bind fun r1 =>
  (c63 ((a2.1, (a3.1, ())), ())).bind fun r2 =>
  (c64 ((a4.1, (a5.1, (a6.1, (a7.1, (a8.1, (a9.1, (a10.1, (a11.1, ())))))))), ())).bind fun r3 =>
  (c65 ((a12.1, (a13.1, ())), ())).bind fun r4 =>
  (c41 (a20.1, ())).bind fun r5 =>
  (c66 ((a21.1, (a22.1, (a23.1, (a23.2.1, (a24.1, (a24.2.1, (a25.1, (a25.2.1, (a25.2.2.1, (a25.2.2.2.1, (a25.2.2.2.2.1, ()))))))))))), ())).bind fun r6 =>
  (c67 (a25.2.2.2.2.2, ())).bind fun r7 =>
  some (((r0.1.1.1, (r1.1.1, (r2.1.1.1, (r2.1.1.2.1, (r3.1.1.1, (r3.1.1.2.1, (r3.1.1.2.2.1, (r3.1.1.2.2.2.1, (r3.1.1.2.2.2.2.1, (r3.1.1.2.2.2.2.2.1, (r3.1.1.2.2.2.2.2.2.1, (r3.1.1.2.2.2.2.2.2.2.1, (r4.1.1.1, (r4.1.1.2.1, (a14.1, (a15.1, (a16.1, (a17.1, (a18.1, (a19.1, (r5.1.1, (r6.1.1.1, (r6.1.1.2.1, (r6.1.1.2.2.1, (r6.1.1.2.2.2.1, (r6.1.1.2.2.2.2.1, (r6.1.1.2.2.2.2.2.1, (r6.1.1.2.2.2.2.2.2.1, (r6.1.1.2.2.2.2.2.2.2.1, (r6.1.1.2.2.2.2.2.2.2.2.1, (r6.1.1.2.2.2.2.2.2.2.2.2.1, (r6.1.1.2.2.2.2.2.2.2.2.2.2.1, r7.1.1)))))))))))))))))))))))))))))))), ()), ())
noncomputable def E17 (c64 : F64) (c62 : F62) (c41 : F41) (c63 : F63) (c65 : F65) (c66 : F66) (c67 : F67) := mkE [g64 c64, g62 c62, g41 c41, g63 c63, g65 c65, g66 c66, g67 c67]
theorem s17 (c64 : F64) (c62 : F62) (c41 : F41) (c63 : F63) (c65 : F65) (c66 : F66) (c67 : F67)  (y) : tevF (E17 c64 c62 c41 c63 c65 c66 c67 ) Tryz.f17 i17 o17 y = m17 c64 c62 c41 c63 c65 c66 c67  y := by kernel_rfl
noncomputable def r17 : F17 := m17 r64 r62 r41 r63 r65 r66 r67 
theorem k17 : CK Tryz.prog (g17 r17) := fn0 (s17 r64 r62 r41 r63 r65 r66 r67) (fnsL_ok ⟨k64, k62, k41, k63, k65, k66, k67, trivial⟩) rfl mixed (by kernel_rfl) (by kernel_rfl) (by kernel_rfl)
@[reducible] def i132 : List Ty := [.a q0]
@[reducible] def o132 : List Ty := [.a [.sl true .n]]
abbrev R132 := Option (PTup o132 × BTup i132)
abbrev F132 := PTup i132 → R132
abbrev g132 (c : F132) : Nat × Tev.Fn := (132, ⟨i132, o132, c, .nor⟩)
@[reducible] def lc132_0 : List Ty := []
@[reducible] def lb132_0 : List Ty := [.p q0, .p [.sl true .n]]
@[reducible] def lv132_0 : List Ty := [.v (.int .i64)]
@[reducible] def lr132_0 : List Ty := []
abbrev R132_0 := Option (Sum (PTup lv132_0) (PTup lr132_0) × BTup lb132_0)
abbrev B132_0 := PTup lb132_0 → PTup lv132_0 → R132_0
abbrev A132_0 := PTup lc132_0 → B132_0
noncomputable def w132_0   (again : B132_0) (x : PTup lc132_0) (y : PTup lb132_0) (z : PTup lv132_0) : R132_0 :=
  bif (ltI z.1 (lenI y.1.1)) then (bif (leI (0 : Int) z.1) then (bif (ltI z.1 (lenI y.1.1)) then (bif (leN (0 + (List.length (rdE .n y.1.1 z.1))) (E.most .i)) then (bif (leN ((List.length y.2.1.1) + (List.length (([] ++ (rdE .n y.1.1 z.1)) :: []))) (E.most .n)) then (again (y.1, (((y.2.1.1 ++ (([] ++ (rdE .n y.1.1 z.1)) :: [])), ()), ())) ((wI (z.1 + (1 : Int))), ()))
      else none)
     else none)
    else none)
   else none)
  else some ((Sum.inl z), (y.1, (y.2.1, ())))
noncomputable def e132_0 (l : A132_0) : LoopE := ⟨[], lc132_0, [1, 3], lb132_0, [4], lv132_0, [], lr132_0, 0, [], l⟩
noncomputable def m132  (l0 : A132_0) (y : PTup i132) : Option (PTup o132 × BTup i132) :=
  (l0 () (y.1, (([], ()), ())) ((0 : Int), ())).bind fun r0 =>
  sumElim r0.1 (fun r1 => some ((r0.2.2.1, ()), ()))
  (fun r1 => some ((([], ()), ()), ()))
noncomputable def E132  (l0 : A132_0) : CEnv := ⟨⟨Tryz.prog, fnsL []⟩, loopsL [(3, e132_0 l0)]⟩
theorem t132_0  (l0 : A132_0) (again) (x y z) : loopRound (E132  l0) (loopAt (bodyOf Tryz.f132) 0) (e132_0 l0) Tryz.f132.ntmps again x y z = w132_0   again x y z := by kernel_rfl
noncomputable def n132_0   : Nat → A132_0
  | 0, _, _, _ => none
  | n + 1, x, y, z => w132_0   (fun y z => n132_0   n x y z) x y z
theorem s132  (l0 : A132_0) (y) : tevF (E132  l0) Tryz.f132 i132 o132 y = m132  l0 y := by kernel_rfl
noncomputable def L132_0 : A132_0 := n132_0   fuel
noncomputable def r132 : F132 := m132  L132_0
theorem k132 : CK Tryz.prog (g132 r132) := by
  have hE : ∀ g f, (E132  L132_0).env.fns g = some f → CallOk Tryz.prog g f := fnsL_ok trivial
  have h0 : LoopOk Tryz.prog Tryz.f132.ntmps (loopAt (bodyOf Tryz.f132) 0) (e132_0 L132_0) := lp_ok (E := E132  L132_0) rfl hE mixed (AllLoops.of_list (l := []) (by kernel_rfl) trivial) (n132_0  ) (fun _ _ _ => rfl) (fun n x y z => t132_0  L132_0 _ x y z) rfl
  exact fn_ok (E := E132  L132_0) rfl hE mixed (by kernel_rfl) (by kernel_rfl) (AllLoops.of_list (l := [(loopAt (bodyOf Tryz.f132) 0)]) (by kernel_rfl) (.one (by kernel_rfl) h0 trivial)) (s132  L132_0)
@[reducible] def i133 : List Ty := [.a q1]
@[reducible] def o133 : List Ty := [.a q7]
abbrev R133 := Option (PTup o133 × BTup i133)
abbrev F133 := PTup i133 → R133
abbrev g133 (c : F133) : Nat × Tev.Fn := (133, ⟨i133, o133, c, .nor⟩)
noncomputable def m133   (y : PTup i133) : Option (PTup o133 × BTup i133) :=
  bif (leN (0 + (List.length y.1.1)) (E.most .i)) then (some (((([] ++ y.1.1), y.1.2), ()), ()))
  else none
noncomputable def E133  := mkE []
theorem s133   (y) : tevF (E133  ) Tryz.f133 i133 o133 y = m133   y := by kernel_rfl
noncomputable def r133 : F133 := m133  
theorem k133 : CK Tryz.prog (g133 r133) := fn0 (s133 ) (fnsL_ok trivial) rfl mixed (by kernel_rfl) (by kernel_rfl) (by kernel_rfl)
@[reducible] def i171 : List Ty := [.a q2]
@[reducible] def o171 : List Ty := [.a q10]
abbrev R171 := Option (PTup o171 × BTup i171)
abbrev F171 := PTup i171 → R171
abbrev g171 (c : F171) : Nat × Tev.Fn := (171, ⟨i171, o171, c, .nor⟩)
noncomputable def m171   (y : PTup i171) : Option (PTup o171 × BTup i171) :=
  bif (leN (0 + (List.length y.1.2.2.2.2.2.2.1)) (E.most .i)) then (bif (leN (0 + (List.length y.1.2.2.2.2.2.2.2.1)) (E.most .i)) then (some (((y.1.1, (y.1.2.1, (y.1.2.2.1, (y.1.2.2.2.1, (y.1.2.2.2.2.1, (y.1.2.2.2.2.2.1, (([] ++ y.1.2.2.2.2.2.2.1), (([] ++ y.1.2.2.2.2.2.2.2.1), ())))))))), ()), ()))
   else none)
  else none
noncomputable def E171  := mkE []
theorem s171   (y) : tevF (E171  ) Tryz.f171 i171 o171 y = m171   y := by kernel_rfl
noncomputable def r171 : F171 := m171  
theorem k171 : CK Tryz.prog (g171 r171) := fn0 (s171 ) (fnsL_ok trivial) rfl mixed (by kernel_rfl) (by kernel_rfl) (by kernel_rfl)
@[reducible] def i172 : List Ty := [.v (.sl false .n)]
@[reducible] def o172 : List Ty := [.v (.sl true .n)]
abbrev R172 := Option (PTup o172 × BTup i172)
abbrev F172 := PTup i172 → R172
abbrev g172 (c : F172) : Nat × Tev.Fn := (172, ⟨i172, o172, c, .nor⟩)
@[reducible] def lc172_0 : List Ty := [.v (.sl false .n)]
@[reducible] def lb172_0 : List Ty := []
@[reducible] def lv172_0 : List Ty := [.v (.sl true .n), .v (.int .i64)]
@[reducible] def lr172_0 : List Ty := []
abbrev R172_0 := Option (Sum (PTup lv172_0) (PTup lr172_0) × BTup lb172_0)
abbrev B172_0 := PTup lb172_0 → PTup lv172_0 → R172_0
abbrev A172_0 := PTup lc172_0 → B172_0
noncomputable def w172_0   (again : B172_0) (x : PTup lc172_0) (y : PTup lb172_0) (z : PTup lv172_0) : R172_0 :=
  bif (ltI z.2.1 (lenI x.1)) then (bif (leI (0 : Int) z.2.1) then (bif (ltI z.2.1 (lenI x.1)) then (bif (leN (0 + (List.length (rdE .n x.1 z.2.1))) (E.most .i)) then (bif (leN ((List.length z.1) + (List.length (([] ++ (rdE .n x.1 z.2.1)) :: []))) (E.most .n)) then (again () ((z.1 ++ (([] ++ (rdE .n x.1 z.2.1)) :: [])), ((wI (z.2.1 + (1 : Int))), ())))
      else none)
     else none)
    else none)
   else none)
  else some ((Sum.inl z), ())
noncomputable def e172_0 (l : A172_0) : LoopE := ⟨[0], lc172_0, [], lb172_0, [3, 4], lv172_0, [], lr172_0, 0, [], l⟩
noncomputable def m172  (l0 : A172_0) (y : PTup i172) : Option (PTup o172 × BTup i172) :=
  (l0 y () ([], ((0 : Int), ()))).bind fun r0 =>
  sumElim r0.1 (fun r1 => some ((r1.1, ()), ()))
  (fun r1 => some (([], ()), ()))
noncomputable def E172  (l0 : A172_0) : CEnv := ⟨⟨Tryz.prog, fnsL []⟩, loopsL [(3, e172_0 l0)]⟩
theorem t172_0  (l0 : A172_0) (again) (x y z) : loopRound (E172  l0) (loopAt (bodyOf Tryz.f172) 0) (e172_0 l0) Tryz.f172.ntmps again x y z = w172_0   again x y z := by kernel_rfl
noncomputable def n172_0   : Nat → A172_0
  | 0, _, _, _ => none
  | n + 1, x, y, z => w172_0   (fun y z => n172_0   n x y z) x y z
theorem s172  (l0 : A172_0) (y) : tevF (E172  l0) Tryz.f172 i172 o172 y = m172  l0 y := by kernel_rfl
noncomputable def L172_0 : A172_0 := n172_0   fuel
noncomputable def r172 : F172 := m172  L172_0
theorem k172 : CK Tryz.prog (g172 r172) := by
  have hE : ∀ g f, (E172  L172_0).env.fns g = some f → CallOk Tryz.prog g f := fnsL_ok trivial
  have h0 : LoopOk Tryz.prog Tryz.f172.ntmps (loopAt (bodyOf Tryz.f172) 0) (e172_0 L172_0) := lp_ok (E := E172  L172_0) rfl hE mixed (AllLoops.of_list (l := []) (by kernel_rfl) trivial) (n172_0  ) (fun _ _ _ => rfl) (fun n x y z => t172_0  L172_0 _ x y z) rfl
  exact fn_ok (E := E172  L172_0) rfl hE mixed (by kernel_rfl) (by kernel_rfl) (AllLoops.of_list (l := [(loopAt (bodyOf Tryz.f172) 0)]) (by kernel_rfl) (.one (by kernel_rfl) h0 trivial)) (s172  L172_0)
@[reducible] def i142 : List Ty := [.v (.int .i64), .v (.int .i64), .v (.int .i64)]
@[reducible] def o142 : List Ty := [.v (.bool)]
abbrev R142 := Option (PTup o142 × BTup i142)
abbrev F142 := PTup i142 → R142
abbrev g142 (c : F142) : Nat × Tev.Fn := (142, ⟨i142, o142, c, .nor⟩)
noncomputable def m142   (y : PTup i142) : Option (PTup o142 × BTup i142) :=
  bif (leI y.2.1 y.1) then (some (((leI y.1 y.2.2.1), ()), ()))
  else some ((false, ()), ())
noncomputable def E142  := mkE []
theorem s142   (y) : tevF (E142  ) Tryz.f142 i142 o142 y = m142   y := by kernel_rfl
noncomputable def r142 : F142 := m142  
theorem k142 : CK Tryz.prog (g142 r142) := fn0 (s142 ) (fnsL_ok trivial) rfl mixed (by kernel_rfl) (by kernel_rfl) (by kernel_rfl)
@[reducible] def i141 : List Ty := [.v (.int .i64)]
@[reducible] def o141 : List Ty := [.v (.bool)]
abbrev R141 := Option (PTup o141 × BTup i141)
abbrev F141 := PTup i141 → R141
abbrev g141 (c : F141) : Nat × Tev.Fn := (141, ⟨i141, o141, c, .nor⟩)
noncomputable def m141 (c142 : F142)  (y : PTup i141) : Option (PTup o141 × BTup i141) :=
  (c142 (y.1, ((0 : Int), ((255 : Int), ())))).bind fun r0 =>
  some (r0.1, ())
noncomputable def E141 (c142 : F142) := mkE [g142 c142]
theorem s141 (c142 : F142)  (y) : tevF (E141 c142 ) Tryz.f141 i141 o141 y = m141 c142  y := by kernel_rfl
noncomputable def r141 : F141 := m141 r142 
theorem k141 : CK Tryz.prog (g141 r141) := fn0 (s141 r142) (fnsL_ok ⟨k142, trivial⟩) rfl mixed (by kernel_rfl) (by kernel_rfl) (by kernel_rfl)
@[reducible] def i136 : List Ty := [.v (.sl false .i)]
@[reducible] def o136 : List Ty := [.v (.bool)]
abbrev R136 := Option (PTup o136 × BTup i136)
abbrev F136 := PTup i136 → R136
abbrev g136 (c : F136) : Nat × Tev.Fn := (136, ⟨i136, o136, c, .nor⟩)
@[reducible] def lc136_0 : List Ty := [.v (.sl false .i)]
@[reducible] def lb136_0 : List Ty := []
@[reducible] def lv136_0 : List Ty := [.v (.int .i64)]
@[reducible] def lr136_0 : List Ty := [.v (.bool)]
abbrev R136_0 := Option (Sum (PTup lv136_0) (PTup lr136_0) × BTup lb136_0)
abbrev B136_0 := PTup lb136_0 → PTup lv136_0 → R136_0
abbrev A136_0 := PTup lc136_0 → B136_0
noncomputable def w136_0 (c141 : F141)  (again : B136_0) (x : PTup lc136_0) (y : PTup lb136_0) (z : PTup lv136_0) : R136_0 :=
  bif (ltI z.1 (lenI x.1)) then (bif (leI (0 : Int) z.1) then (bif (ltI z.1 (lenI x.1)) then ((c141 ((rdE .i x.1 z.1), ())).bind fun r0 =>
     bif (!r0.1.1) then (some ((Sum.inr (false, ())), ()))
     else again () ((wI (z.1 + (1 : Int))), ()))
    else none)
   else none)
  else some ((Sum.inl z), ())
noncomputable def e136_0 (l : A136_0) : LoopE := ⟨[0], lc136_0, [], lb136_0, [3], lv136_0, [2], lr136_0, 0, [], l⟩
noncomputable def m136 (c141 : F141) (l0 : A136_0) (y : PTup i136) : Option (PTup o136 × BTup i136) :=
  (l0 y () ((0 : Int), ())).bind fun r0 =>
  sumElim r0.1 (fun r1 => some (((leI (lenI y.1) (20 : Int)), ()), ()))
  (fun r1 => some (r1, ()))
noncomputable def E136 (c141 : F141) (l0 : A136_0) : CEnv := ⟨⟨Tryz.prog, fnsL [g141 c141]⟩, loopsL [(2, e136_0 l0)]⟩
theorem t136_0 (c141 : F141) (l0 : A136_0) (again) (x y z) : loopRound (E136 c141 l0) (loopAt (bodyOf Tryz.f136) 0) (e136_0 l0) Tryz.f136.ntmps again x y z = w136_0 c141  again x y z := by kernel_rfl
noncomputable def n136_0 (c141 : F141)  : Nat → A136_0
  | 0, _, _, _ => none
  | n + 1, x, y, z => w136_0 c141  (fun y z => n136_0 c141  n x y z) x y z
theorem s136 (c141 : F141) (l0 : A136_0) (y) : tevF (E136 c141 l0) Tryz.f136 i136 o136 y = m136 c141 l0 y := by kernel_rfl
noncomputable def L136_0 : A136_0 := n136_0 r141  fuel
noncomputable def r136 : F136 := m136 r141 L136_0
theorem k136 : CK Tryz.prog (g136 r136) := by
  have hE : ∀ g f, (E136 r141 L136_0).env.fns g = some f → CallOk Tryz.prog g f := fnsL_ok ⟨k141, trivial⟩
  have h0 : LoopOk Tryz.prog Tryz.f136.ntmps (loopAt (bodyOf Tryz.f136) 0) (e136_0 L136_0) := lp_ok (E := E136 r141 L136_0) rfl hE mixed (AllLoops.of_list (l := []) (by kernel_rfl) trivial) (n136_0 r141 ) (fun _ _ _ => rfl) (fun n x y z => t136_0 r141 L136_0 _ x y z) rfl
  exact fn_ok (E := E136 r141 L136_0) rfl hE mixed (by kernel_rfl) (by kernel_rfl) (AllLoops.of_list (l := [(loopAt (bodyOf Tryz.f136) 0)]) (by kernel_rfl) (.one (by kernel_rfl) h0 trivial)) (s136 r141 L136_0)
@[reducible] def i231 : List Ty := [.a q0]
@[reducible] def o231 : List Ty := [.v (.bool)]
abbrev R231 := Option (PTup o231 × BTup i231)
abbrev F231 := PTup i231 → R231
abbrev g231 (c : F231) : Nat × Tev.Fn := (231, ⟨i231, o231, c, .nor⟩)
@[reducible] def lc231_0 : List Ty := [.v (.int .i64)]
@[reducible] def lb231_0 : List Ty := [.p q0]
@[reducible] def lv231_0 : List Ty := [.v (.int .i64)]
@[reducible] def lr231_0 : List Ty := [.v (.bool)]
abbrev R231_0 := Option (Sum (PTup lv231_0) (PTup lr231_0) × BTup lb231_0)
abbrev B231_0 := PTup lb231_0 → PTup lv231_0 → R231_0
abbrev A231_0 := PTup lc231_0 → B231_0
noncomputable def w231_0 (c142 : F142)  (again : B231_0) (x : PTup lc231_0) (y : PTup lb231_0) (z : PTup lv231_0) : R231_0 :=
  bif (ltI z.1 (256 : Int)) then (bif (leI (0 : Int) x.1) then (bif (ltI x.1 (lenI y.1.1)) then (bif (leI (0 : Int) z.1) then (bif (ltI z.1 (lenI (rdE .n y.1.1 x.1))) then ((c142 ((rdI (rdE .n y.1.1 x.1) z.1), ((0 : Int), ((255 : Int), ())))).bind fun r0 =>
       bif (!r0.1.1) then (some ((Sum.inr (false, ())), (y.1, ())))
       else again (y.1, ()) ((wI (z.1 + (1 : Int))), ()))
      else none)
     else none)
    else none)
   else none)
  else some ((Sum.inl z), (y.1, ()))
noncomputable def e231_0 (l : A231_0) : LoopE := ⟨[3], lc231_0, [1], lb231_0, [4], lv231_0, [2], lr231_0, 2, [], l⟩
@[reducible] def lc231_1 : List Ty := []
@[reducible] def lb231_1 : List Ty := [.p q0]
@[reducible] def lv231_1 : List Ty := [.v (.int .i64)]
@[reducible] def lr231_1 : List Ty := [.v (.bool)]
abbrev R231_1 := Option (Sum (PTup lv231_1) (PTup lr231_1) × BTup lb231_1)
abbrev B231_1 := PTup lb231_1 → PTup lv231_1 → R231_1
abbrev A231_1 := PTup lc231_1 → B231_1
noncomputable def w231_1 (c142 : F142) (l0 : A231_0) (again : B231_1) (x : PTup lc231_1) (y : PTup lb231_1) (z : PTup lv231_1) : R231_1 :=
  bif (ltI z.1 (lenI y.1.1)) then (bif (leI (0 : Int) z.1) then (bif (ltI z.1 (lenI y.1.1)) then (bif (neI (lenI (rdE .n y.1.1 z.1)) (256 : Int)) then (some ((Sum.inr (false, ())), (y.1, ())))
     else (l0 z (y.1, ()) ((0 : Int), ())).bind fun r0 =>
     sumElim r0.1 (fun r1 => again (y.1, ()) ((wI (z.1 + (1 : Int))), ()))
     (fun r1 => some ((Sum.inr r1), (y.1, ()))))
    else none)
   else none)
  else some ((Sum.inl z), (y.1, ()))
noncomputable def e231_1 (l : A231_1) : LoopE := ⟨[], lc231_1, [1], lb231_1, [3], lv231_1, [2], lr231_1, 0, [], l⟩
noncomputable def m231 (c142 : F142) (l0 : A231_0) (l1 : A231_1) (y : PTup i231) : Option (PTup o231 × BTup i231) :=
  (l1 () (y.1, ()) ((0 : Int), ())).bind fun r0 =>
  sumElim r0.1 (fun r1 => (c142 ((lenI y.1.1), ((1 : Int), ((8 : Int), ())))).bind fun r2 =>
   some (r2.1, ()))
  (fun r1 => some (r1, ()))
noncomputable def E231 (c142 : F142) (l0 : A231_0) (l1 : A231_1) : CEnv := ⟨⟨Tryz.prog, fnsL [g142 c142]⟩, loopsL [(7, e231_0 l0), (2, e231_1 l1)]⟩
theorem t231_0 (c142 : F142) (l0 : A231_0) (l1 : A231_1) (again) (x y z) : loopRound (E231 c142 l0 l1) (loopAt (loopAt (bodyOf Tryz.f231) 0) 0) (e231_0 l0) Tryz.f231.ntmps again x y z = w231_0 c142  again x y z := by kernel_rfl
noncomputable def n231_0 (c142 : F142)  : Nat → A231_0
  | 0, _, _, _ => none
  | n + 1, x, y, z => w231_0 c142  (fun y z => n231_0 c142  n x y z) x y z
theorem t231_1 (c142 : F142) (l0 : A231_0) (l1 : A231_1) (again) (x y z) : loopRound (E231 c142 l0 l1) (loopAt (bodyOf Tryz.f231) 0) (e231_1 l1) Tryz.f231.ntmps again x y z = w231_1 c142 l0 again x y z := by kernel_rfl
noncomputable def n231_1 (c142 : F142) (l0 : A231_0) : Nat → A231_1
  | 0, _, _, _ => none
  | n + 1, x, y, z => w231_1 c142 l0 (fun y z => n231_1 c142 l0 n x y z) x y z
theorem s231 (c142 : F142) (l0 : A231_0) (l1 : A231_1) (y) : tevF (E231 c142 l0 l1) Tryz.f231 i231 o231 y = m231 c142 l0 l1 y := by kernel_rfl
noncomputable def L231_0 : A231_0 := n231_0 r142  fuel
noncomputable def L231_1 : A231_1 := n231_1 r142 L231_0 fuel
noncomputable def r231 : F231 := m231 r142 L231_0 L231_1
theorem k231 : CK Tryz.prog (g231 r231) := by
  have hE : ∀ g f, (E231 r142 L231_0 L231_1).env.fns g = some f → CallOk Tryz.prog g f := fnsL_ok ⟨k142, trivial⟩
  have h0 : LoopOk Tryz.prog Tryz.f231.ntmps (loopAt (loopAt (bodyOf Tryz.f231) 0) 0) (e231_0 L231_0) := lp_ok (E := E231 r142 L231_0 L231_1) rfl hE mixed (AllLoops.of_list (l := []) (by kernel_rfl) trivial) (n231_0 r142 ) (fun _ _ _ => rfl) (fun n x y z => t231_0 r142 L231_0 L231_1 _ x y z) rfl
  have h1 : LoopOk Tryz.prog Tryz.f231.ntmps (loopAt (bodyOf Tryz.f231) 0) (e231_1 L231_1) := lp_ok (E := E231 r142 L231_0 L231_1) rfl hE mixed (AllLoops.of_list (l := [(loopAt (loopAt (bodyOf Tryz.f231) 0) 0)]) (by kernel_rfl) (.one (by kernel_rfl) h0 trivial)) (n231_1 r142 L231_0) (fun _ _ _ => rfl) (fun n x y z => t231_1 r142 L231_0 L231_1 _ x y z) rfl
  exact fn_ok (E := E231 r142 L231_0 L231_1) rfl hE mixed (by kernel_rfl) (by kernel_rfl) (AllLoops.of_list (l := [(loopAt (bodyOf Tryz.f231) 0)]) (by kernel_rfl) (.one (by kernel_rfl) h1 trivial)) (s231 r142 L231_0 L231_1)
@[reducible] def i137 : List Ty := [.a q0, .a q1]
@[reducible] def o137 : List Ty := [.v (.bool)]
abbrev R137 := Option (PTup o137 × BTup i137)
abbrev F137 := PTup i137 → R137
abbrev g137 (c : F137) : Nat × Tev.Fn := (137, ⟨i137, o137, c, .nor⟩)
@[reducible] def lc137_0 : List Ty := []
@[reducible] def lb137_0 : List Ty := [.p q1]
@[reducible] def lv137_0 : List Ty := [.v (.int .i64)]
@[reducible] def lr137_0 : List Ty := [.v (.bool)]
abbrev R137_0 := Option (Sum (PTup lv137_0) (PTup lr137_0) × BTup lb137_0)
abbrev B137_0 := PTup lb137_0 → PTup lv137_0 → R137_0
abbrev A137_0 := PTup lc137_0 → B137_0
noncomputable def w137_0 (c231 : F231) (c142 : F142) (c141 : F141)  (again : B137_0) (x : PTup lc137_0) (y : PTup lb137_0) (z : PTup lv137_0) : R137_0 :=
  bif (ltI z.1 (512 : Int)) then (bif (leI (0 : Int) z.1) then (bif (ltI z.1 (lenI y.1.1)) then ((c141 ((rdE .i y.1.1 z.1), ())).bind fun r0 =>
     bif (!r0.1.1) then (some ((Sum.inr (false, ())), (y.1, ())))
     else again (y.1, ()) ((wI (z.1 + (1 : Int))), ()))
    else none)
   else none)
  else some ((Sum.inl z), (y.1, ()))
noncomputable def e137_0 (l : A137_0) : LoopE := ⟨[], lc137_0, [3], lb137_0, [5], lv137_0, [4], lr137_0, 0, [], l⟩
noncomputable def m137 (c231 : F231) (c142 : F142) (c141 : F141) (l0 : A137_0) (y : PTup i137) : Option (PTup o137 × BTup i137) :=
  (c231 (y.1, ())).bind fun r0 =>
  bif (!r0.1.1) then (some ((false, ()), ()))
  else bif (neI (lenI y.2.1.1) (512 : Int)) then (some ((false, ()), ()))
  else (c142 (y.2.1.2.1, ((0 : Int), ((wI ((lenI y.1.1) - (1 : Int))), ())))).bind fun r1 =>
  bif (!r1.1.1) then (some ((false, ()), ()))
  else (l0 () (y.2.1, ()) ((0 : Int), ())).bind fun r2 =>
  sumElim r2.1 (fun r3 => some ((true, ()), ()))
  (fun r3 => some (r3, ()))
noncomputable def E137 (c231 : F231) (c142 : F142) (c141 : F141) (l0 : A137_0) : CEnv := ⟨⟨Tryz.prog, fnsL [g231 c231, g142 c142, g141 c141]⟩, loopsL [(4, e137_0 l0)]⟩
theorem t137_0 (c231 : F231) (c142 : F142) (c141 : F141) (l0 : A137_0) (again) (x y z) : loopRound (E137 c231 c142 c141 l0) (loopAt (bodyOf Tryz.f137) 0) (e137_0 l0) Tryz.f137.ntmps again x y z = w137_0 c231 c142 c141  again x y z := by kernel_rfl
noncomputable def n137_0 (c231 : F231) (c142 : F142) (c141 : F141)  : Nat → A137_0
  | 0, _, _, _ => none
  | n + 1, x, y, z => w137_0 c231 c142 c141  (fun y z => n137_0 c231 c142 c141  n x y z) x y z
theorem s137 (c231 : F231) (c142 : F142) (c141 : F141) (l0 : A137_0) (y) : tevF (E137 c231 c142 c141 l0) Tryz.f137 i137 o137 y = m137 c231 c142 c141 l0 y := by kernel_rfl
noncomputable def L137_0 : A137_0 := n137_0 r231 r142 r141  fuel
noncomputable def r137 : F137 := m137 r231 r142 r141 L137_0
theorem k137 : CK Tryz.prog (g137 r137) := by
  have hE : ∀ g f, (E137 r231 r142 r141 L137_0).env.fns g = some f → CallOk Tryz.prog g f := fnsL_ok ⟨k231, k142, k141, trivial⟩
  have h0 : LoopOk Tryz.prog Tryz.f137.ntmps (loopAt (bodyOf Tryz.f137) 0) (e137_0 L137_0) := lp_ok (E := E137 r231 r142 r141 L137_0) rfl hE mixed (AllLoops.of_list (l := []) (by kernel_rfl) trivial) (n137_0 r231 r142 r141 ) (fun _ _ _ => rfl) (fun n x y z => t137_0 r231 r142 r141 L137_0 _ x y z) rfl
  exact fn_ok (E := E137 r231 r142 r141 L137_0) rfl hE mixed (by kernel_rfl) (by kernel_rfl) (AllLoops.of_list (l := [(loopAt (bodyOf Tryz.f137) 0)]) (by kernel_rfl) (.one (by kernel_rfl) h0 trivial)) (s137 r231 r142 r141 L137_0)
@[reducible] def i138 : List Ty := [.a q8]
@[reducible] def o138 : List Ty := [.v (.bool)]
abbrev R138 := Option (PTup o138 × BTup i138)
abbrev F138 := PTup i138 → R138
abbrev g138 (c : F138) : Nat × Tev.Fn := (138, ⟨i138, o138, c, .nor⟩)
noncomputable def m138 (c142 : F142) (c141 : F141)  (y : PTup i138) : Option (PTup o138 × BTup i138) :=
  (c141 (y.1.1, ())).bind fun r0 =>
  bif r0.1.1 then ((c141 (y.1.2.1, ())).bind fun r1 =>
   bif r1.1.1 then ((c141 (y.1.2.2.1, ())).bind fun r2 =>
    bif r2.1.1 then ((c142 (y.1.2.2.2.1, ((0 : Int), ((65535 : Int), ())))).bind fun r3 =>
     some (r3.1, ()))
    else some ((false, ()), ()))
   else some ((false, ()), ()))
  else some ((false, ()), ())
noncomputable def E138 (c142 : F142) (c141 : F141) := mkE [g142 c142, g141 c141]
theorem s138 (c142 : F142) (c141 : F141)  (y) : tevF (E138 c142 c141 ) Tryz.f138 i138 o138 y = m138 c142 c141  y := by kernel_rfl
noncomputable def r138 : F138 := m138 r142 r141 
theorem k138 : CK Tryz.prog (g138 r138) := fn0 (s138 r142 r141) (fnsL_ok ⟨k142, k141, trivial⟩) rfl mixed (by kernel_rfl) (by kernel_rfl) (by kernel_rfl)
@[reducible] def i241 : List Ty := [.v (.int .i64)]
@[reducible] def o241 : List Ty := [.v (.int .i64)]
abbrev R241 := Option (PTup o241 × BTup i241)
abbrev F241 := PTup i241 → R241
abbrev g241 (c : F241) : Nat × Tev.Fn := (241, ⟨i241, o241, c, .nor⟩)
noncomputable def m241   (y : PTup i241) : Option (PTup o241 × BTup i241) :=
  bif (ltI (48 : Int) (Int.tmod y.1 (64 : Int))) then (some (((0 : Int), ()), ()))
  else some (((Int.tmod y.1 (64 : Int)), ()), ())
noncomputable def E241  := mkE []
theorem s241   (y) : tevF (E241  ) Tryz.f241 i241 o241 y = m241   y := by kernel_rfl
noncomputable def r241 : F241 := m241  
theorem k241 : CK Tryz.prog (g241 r241) := fn0 (s241 ) (fnsL_ok trivial) rfl mixed (by kernel_rfl) (by kernel_rfl) (by kernel_rfl)
@[reducible] def i168 : List Ty := [.a q2]
@[reducible] def o168 : List Ty := [.v (.bool)]
abbrev R168 := Option (PTup o168 × BTup i168)
abbrev F168 := PTup i168 → R168
abbrev g168 (c : F168) : Nat × Tev.Fn := (168, ⟨i168, o168, c, .nor⟩)
@[reducible] def lc168_0 : List Ty := []
@[reducible] def lb168_0 : List Ty := [.p q2]
@[reducible] def lv168_0 : List Ty := [.v (.int .i64)]
@[reducible] def lr168_0 : List Ty := [.v (.bool)]
abbrev R168_0 := Option (Sum (PTup lv168_0) (PTup lr168_0) × BTup lb168_0)
abbrev B168_0 := PTup lb168_0 → PTup lv168_0 → R168_0
abbrev A168_0 := PTup lc168_0 → B168_0
noncomputable def w168_0 (c142 : F142) (c141 : F141) (c241 : F241)  (again : B168_0) (x : PTup lc168_0) (y : PTup lb168_0) (z : PTup lv168_0) : R168_0 :=
  bif (ltI z.1 (lenI y.1.2.2.2.2.2.2.2.1)) then (bif (leI (0 : Int) z.1) then (bif (ltI z.1 (lenI y.1.2.2.2.2.2.2.2.1)) then ((c142 ((rdE .i y.1.2.2.2.2.2.2.2.1 z.1), ((0 : Int), ((63 : Int), ())))).bind fun r0 =>
     bif (!r0.1.1) then (some ((Sum.inr (false, ())), (y.1, ())))
     else again (y.1, ()) ((wI (z.1 + (1 : Int))), ()))
    else none)
   else none)
  else some ((Sum.inl z), (y.1, ()))
noncomputable def e168_0 (l : A168_0) : LoopE := ⟨[], lc168_0, [1], lb168_0, [4], lv168_0, [2], lr168_0, 2, [], l⟩
@[reducible] def lc168_1 : List Ty := []
@[reducible] def lb168_1 : List Ty := [.p q2]
@[reducible] def lv168_1 : List Ty := [.v (.int .i64)]
@[reducible] def lr168_1 : List Ty := [.v (.bool)]
abbrev R168_1 := Option (Sum (PTup lv168_1) (PTup lr168_1) × BTup lb168_1)
abbrev B168_1 := PTup lb168_1 → PTup lv168_1 → R168_1
abbrev A168_1 := PTup lc168_1 → B168_1
noncomputable def w168_1 (c142 : F142) (c141 : F141) (c241 : F241) (l0 : A168_0) (again : B168_1) (x : PTup lc168_1) (y : PTup lb168_1) (z : PTup lv168_1) : R168_1 :=
  bif (ltI z.1 (16 : Int)) then (bif (leI (0 : Int) z.1) then (bif (ltI z.1 (lenI y.1.2.2.2.2.2.2.1)) then ((c142 ((rdE .i y.1.2.2.2.2.2.2.1 z.1), ((0 : Int), ((63 : Int), ())))).bind fun r0 =>
     bif (!r0.1.1) then (some ((Sum.inr (false, ())), (y.1, ())))
     else again (y.1, ()) ((wI (z.1 + (1 : Int))), ()))
    else none)
   else none)
  else some ((Sum.inl z), (y.1, ()))
noncomputable def e168_1 (l : A168_1) : LoopE := ⟨[], lc168_1, [1], lb168_1, [3], lv168_1, [2], lr168_1, 0, [], l⟩
noncomputable def m168 (c142 : F142) (c141 : F141) (c241 : F241) (l0 : A168_0) (l1 : A168_1) (y : PTup i168) : Option (PTup o168 × BTup i168) :=
  (c142 (y.1.1, ((0 : Int), ((20000 : Int), ())))).bind fun r0 =>
  bif (!r0.1.1) then (some ((false, ()), ()))
  else (c141 (y.1.2.1, ())).bind fun r1 =>
  bif (!r1.1.1) then (some ((false, ()), ()))
  else (c141 (y.1.2.2.1, ())).bind fun r2 =>
  bif (!r2.1.1) then (some ((false, ()), ()))
  else (c142 (y.1.2.2.2.1, ((0 : Int), ((15 : Int), ())))).bind fun r3 =>
  bif (!r3.1.1) then (some ((false, ()), ()))
  else (c142 (y.1.2.2.2.2.1, ((0 : Int), ((63 : Int), ())))).bind fun r4 =>
  bif (!r4.1.1) then (some ((false, ()), ()))
  else bif (neI (lenI y.1.2.2.2.2.2.2.1) (16 : Int)) then (some ((false, ()), ()))
  else (c241 (y.1.1, ())).bind fun r5 =>
  bif (neI (lenI y.1.2.2.2.2.2.2.2.1) r5.1.1) then (some ((false, ()), ()))
  else (l1 () (y.1, ()) ((0 : Int), ())).bind fun r6 =>
  sumElim r6.1 (fun r7 => (l0 () ((r6.2.1.1, (r6.2.1.2.1, (r6.2.1.2.2.1, (r6.2.1.2.2.2.1, (r6.2.1.2.2.2.2.1, (r6.2.1.2.2.2.2.2.1, y.1.2.2.2.2.2.2)))))), ()) ((0 : Int), ())).bind fun r8 =>
   sumElim r8.1 (fun r9 => some ((true, ()), ()))
   (fun r9 => some (r9, ())))
  (fun r7 => some (r7, ()))
noncomputable def E168 (c142 : F142) (c141 : F141) (c241 : F241) (l0 : A168_0) (l1 : A168_1) : CEnv := ⟨⟨Tryz.prog, fnsL [g142 c142, g141 c141, g241 c241]⟩, loopsL [(9, e168_0 l0), (4, e168_1 l1)]⟩
theorem t168_0 (c142 : F142) (c141 : F141) (c241 : F241) (l0 : A168_0) (l1 : A168_1) (again) (x y z) : loopRound (E168 c142 c141 c241 l0 l1) (loopAt (bodyOf Tryz.f168) 1) (e168_0 l0) Tryz.f168.ntmps again x y z = w168_0 c142 c141 c241  again x y z := by kernel_rfl
noncomputable def n168_0 (c142 : F142) (c141 : F141) (c241 : F241)  : Nat → A168_0
  | 0, _, _, _ => none
  | n + 1, x, y, z => w168_0 c142 c141 c241  (fun y z => n168_0 c142 c141 c241  n x y z) x y z
theorem t168_1 (c142 : F142) (c141 : F141) (c241 : F241) (l0 : A168_0) (l1 : A168_1) (again) (x y z) : loopRound (E168 c142 c141 c241 l0 l1) (loopAt (bodyOf Tryz.f168) 0) (e168_1 l1) Tryz.f168.ntmps again x y z = w168_1 c142 c141 c241 l0 again x y z := by kernel_rfl
noncomputable def n168_1 (c142 : F142) (c141 : F141) (c241 : F241) (l0 : A168_0) : Nat → A168_1
  | 0, _, _, _ => none
  | n + 1, x, y, z => w168_1 c142 c141 c241 l0 (fun y z => n168_1 c142 c141 c241 l0 n x y z) x y z
theorem s168 (c142 : F142) (c141 : F141) (c241 : F241) (l0 : A168_0) (l1 : A168_1) (y) : tevF (E168 c142 c141 c241 l0 l1) Tryz.f168 i168 o168 y = m168 c142 c141 c241 l0 l1 y := by kernel_rfl
noncomputable def L168_0 : A168_0 := n168_0 r142 r141 r241  fuel
noncomputable def L168_1 : A168_1 := n168_1 r142 r141 r241 L168_0 fuel
noncomputable def r168 : F168 := m168 r142 r141 r241 L168_0 L168_1
theorem k168 : CK Tryz.prog (g168 r168) := by
  have hE : ∀ g f, (E168 r142 r141 r241 L168_0 L168_1).env.fns g = some f → CallOk Tryz.prog g f := fnsL_ok ⟨k142, k141, k241, trivial⟩
  have h0 : LoopOk Tryz.prog Tryz.f168.ntmps (loopAt (bodyOf Tryz.f168) 1) (e168_0 L168_0) := lp_ok (E := E168 r142 r141 r241 L168_0 L168_1) rfl hE mixed (AllLoops.of_list (l := []) (by kernel_rfl) trivial) (n168_0 r142 r141 r241 ) (fun _ _ _ => rfl) (fun n x y z => t168_0 r142 r141 r241 L168_0 L168_1 _ x y z) rfl
  have h1 : LoopOk Tryz.prog Tryz.f168.ntmps (loopAt (bodyOf Tryz.f168) 0) (e168_1 L168_1) := lp_ok (E := E168 r142 r141 r241 L168_0 L168_1) rfl hE mixed (AllLoops.of_list (l := []) (by kernel_rfl) trivial) (n168_1 r142 r141 r241 L168_0) (fun _ _ _ => rfl) (fun n x y z => t168_1 r142 r141 r241 L168_0 L168_1 _ x y z) rfl
  exact fn_ok (E := E168 r142 r141 r241 L168_0 L168_1) rfl hE mixed (by kernel_rfl) (by kernel_rfl) (AllLoops.of_list (l := [(loopAt (bodyOf Tryz.f168) 0), (loopAt (bodyOf Tryz.f168) 1)]) (by kernel_rfl) (.one (by kernel_rfl) h1 (.one (by kernel_rfl) h0 trivial))) (s168 r142 r141 r241 L168_0 L168_1)
@[reducible] def i232 : List Ty := [.a q3]
@[reducible] def o232 : List Ty := [.v (.bool)]
abbrev R232 := Option (PTup o232 × BTup i232)
abbrev F232 := PTup i232 → R232
abbrev g232 (c : F232) : Nat × Tev.Fn := (232, ⟨i232, o232, c, .nor⟩)
@[reducible] def lc232_0 : List Ty := []
@[reducible] def lb232_0 : List Ty := [.p q3]
@[reducible] def lv232_0 : List Ty := [.v (.int .i64)]
@[reducible] def lr232_0 : List Ty := [.v (.bool)]
abbrev R232_0 := Option (Sum (PTup lv232_0) (PTup lr232_0) × BTup lb232_0)
abbrev B232_0 := PTup lb232_0 → PTup lv232_0 → R232_0
abbrev A232_0 := PTup lc232_0 → B232_0
noncomputable def w232_0 (c142 : F142) (c141 : F141)  (again : B232_0) (x : PTup lc232_0) (y : PTup lb232_0) (z : PTup lv232_0) : R232_0 :=
  bif (ltI z.1 (lenI y.1.2.1)) then (bif (leI (0 : Int) z.1) then (bif (ltI z.1 (lenI y.1.2.1)) then ((c142 ((rdE .t y.1.2.1 z.1).1, ((0 : Int), ((20000 : Int), ())))).bind fun r0 =>
     bif (!r0.1.1) then (some ((Sum.inr (false, ())), (y.1, ())))
     else (c142 ((rdE .t y.1.2.1 z.1).2.1, ((0 : Int), ((7 : Int), ())))).bind fun r1 =>
     bif (!r1.1.1) then (some ((Sum.inr (false, ())), (y.1, ())))
     else (c141 ((rdE .t y.1.2.1 z.1).2.2, ())).bind fun r2 =>
     bif (!r2.1.1) then (some ((Sum.inr (false, ())), (y.1, ())))
     else bif (ltI (0 : Int) z.1) then (bif (leI (0 : Int) (wI (z.1 - (1 : Int)))) then (bif (ltI (wI (z.1 - (1 : Int))) (lenI y.1.2.1)) then (bif (ltI (rdE .t y.1.2.1 z.1).1 (rdE .t y.1.2.1 (wI (z.1 - (1 : Int)))).1) then (some ((Sum.inr (false, ())), (y.1, ())))
        else again (y.1, ()) ((wI (z.1 + (1 : Int))), ()))
       else none)
      else none)
     else again (y.1, ()) ((wI (z.1 + (1 : Int))), ()))
    else none)
   else none)
  else some ((Sum.inl z), (y.1, ()))
noncomputable def e232_0 (l : A232_0) : LoopE := ⟨[], lc232_0, [1], lb232_0, [3], lv232_0, [2], lr232_0, 0, [], l⟩
noncomputable def m232 (c142 : F142) (c141 : F141) (l0 : A232_0) (y : PTup i232) : Option (PTup o232 × BTup i232) :=
  (l0 () (y.1, ()) ((0 : Int), ())).bind fun r0 =>
  sumElim r0.1 (fun r1 => (c142 (r0.2.1.1, ((1 : Int), ((16 : Int), ())))).bind fun r2 =>
   bif r2.1.1 then (some (((leI (lenI y.1.2.1) r0.2.1.1), ()), ()))
   else some ((false, ()), ()))
  (fun r1 => some (r1, ()))
noncomputable def E232 (c142 : F142) (c141 : F141) (l0 : A232_0) : CEnv := ⟨⟨Tryz.prog, fnsL [g142 c142, g141 c141]⟩, loopsL [(2, e232_0 l0)]⟩
theorem t232_0 (c142 : F142) (c141 : F141) (l0 : A232_0) (again) (x y z) : loopRound (E232 c142 c141 l0) (loopAt (bodyOf Tryz.f232) 0) (e232_0 l0) Tryz.f232.ntmps again x y z = w232_0 c142 c141  again x y z := by kernel_rfl
noncomputable def n232_0 (c142 : F142) (c141 : F141)  : Nat → A232_0
  | 0, _, _, _ => none
  | n + 1, x, y, z => w232_0 c142 c141  (fun y z => n232_0 c142 c141  n x y z) x y z
theorem s232 (c142 : F142) (c141 : F141) (l0 : A232_0) (y) : tevF (E232 c142 c141 l0) Tryz.f232 i232 o232 y = m232 c142 c141 l0 y := by kernel_rfl
noncomputable def L232_0 : A232_0 := n232_0 r142 r141  fuel
noncomputable def r232 : F232 := m232 r142 r141 L232_0
theorem k232 : CK Tryz.prog (g232 r232) := by
  have hE : ∀ g f, (E232 r142 r141 L232_0).env.fns g = some f → CallOk Tryz.prog g f := fnsL_ok ⟨k142, k141, trivial⟩
  have h0 : LoopOk Tryz.prog Tryz.f232.ntmps (loopAt (bodyOf Tryz.f232) 0) (e232_0 L232_0) := lp_ok (E := E232 r142 r141 L232_0) rfl hE mixed (AllLoops.of_list (l := []) (by kernel_rfl) trivial) (n232_0 r142 r141 ) (fun _ _ _ => rfl) (fun n x y z => t232_0 r142 r141 L232_0 _ x y z) rfl
  exact fn_ok (E := E232 r142 r141 L232_0) rfl hE mixed (by kernel_rfl) (by kernel_rfl) (AllLoops.of_list (l := [(loopAt (bodyOf Tryz.f232) 0)]) (by kernel_rfl) (.one (by kernel_rfl) h0 trivial)) (s232 r142 r141 L232_0)
@[reducible] def i242 : List Ty := [.v (.int .i64)]
@[reducible] def o242 : List Ty := [.v (.int .i64)]
abbrev R242 := Option (PTup o242 × BTup i242)
abbrev F242 := PTup i242 → R242
abbrev g242 (c : F242) : Nat × Tev.Fn := (242, ⟨i242, o242, c, .nor⟩)
noncomputable def m242   (y : PTup i242) : Option (PTup o242 × BTup i242) :=
  some (((wI (Int.tdiv (wI ((wI ((wI (y.1 + (64 : Int))) - (48 : Int))) - (1 : Int))) (64 : Int))), ()), ())
noncomputable def E242  := mkE []
theorem s242   (y) : tevF (E242  ) Tryz.f242 i242 o242 y = m242   y := by kernel_rfl
noncomputable def r242 : F242 := m242  
theorem k242 : CK Tryz.prog (g242 r242) := fn0 (s242 ) (fnsL_ok trivial) rfl mixed (by kernel_rfl) (by kernel_rfl) (by kernel_rfl)
@[reducible] def i170 : List Ty := [.v (.sl false .n), .v (.int .i64)]
@[reducible] def o170 : List Ty := [.v (.bool)]
abbrev R170 := Option (PTup o170 × BTup i170)
abbrev F170 := PTup i170 → R170
abbrev g170 (c : F170) : Nat × Tev.Fn := (170, ⟨i170, o170, c, .nor⟩)
@[reducible] def lc170_0 : List Ty := [.v (.sl false .n)]
@[reducible] def lb170_0 : List Ty := []
@[reducible] def lv170_0 : List Ty := [.v (.int .i64)]
@[reducible] def lr170_0 : List Ty := [.v (.bool)]
abbrev R170_0 := Option (Sum (PTup lv170_0) (PTup lr170_0) × BTup lb170_0)
abbrev B170_0 := PTup lb170_0 → PTup lv170_0 → R170_0
abbrev A170_0 := PTup lc170_0 → B170_0
noncomputable def w170_0 (c242 : F242)  (again : B170_0) (x : PTup lc170_0) (y : PTup lb170_0) (z : PTup lv170_0) : R170_0 :=
  bif (ltI z.1 (lenI x.1)) then (bif (leI (0 : Int) z.1) then (bif (ltI z.1 (lenI x.1)) then (bif (neI (lenI (rdE .n x.1 z.1)) (48 : Int)) then (some ((Sum.inr (false, ())), ()))
     else again () ((wI (z.1 + (1 : Int))), ()))
    else none)
   else none)
  else some ((Sum.inl z), ())
noncomputable def e170_0 (l : A170_0) : LoopE := ⟨[0], lc170_0, [], lb170_0, [5], lv170_0, [4], lr170_0, 0, [], l⟩
noncomputable def m170 (c242 : F242) (l0 : A170_0) (y : PTup i170) : Option (PTup o170 × BTup i170) :=
  (l0 (y.1, ()) () ((0 : Int), ())).bind fun r0 =>
  sumElim r0.1 (fun r1 => (c242 y.2).bind fun r2 =>
   some (((eqI (lenI y.1) r2.1.1), ()), ()))
  (fun r1 => some (r1, ()))
noncomputable def E170 (c242 : F242) (l0 : A170_0) : CEnv := ⟨⟨Tryz.prog, fnsL [g242 c242]⟩, loopsL [(2, e170_0 l0)]⟩
theorem t170_0 (c242 : F242) (l0 : A170_0) (again) (x y z) : loopRound (E170 c242 l0) (loopAt (bodyOf Tryz.f170) 0) (e170_0 l0) Tryz.f170.ntmps again x y z = w170_0 c242  again x y z := by kernel_rfl
noncomputable def n170_0 (c242 : F242)  : Nat → A170_0
  | 0, _, _, _ => none
  | n + 1, x, y, z => w170_0 c242  (fun y z => n170_0 c242  n x y z) x y z
theorem s170 (c242 : F242) (l0 : A170_0) (y) : tevF (E170 c242 l0) Tryz.f170 i170 o170 y = m170 c242 l0 y := by kernel_rfl
noncomputable def L170_0 : A170_0 := n170_0 r242  fuel
noncomputable def r170 : F170 := m170 r242 L170_0
theorem k170 : CK Tryz.prog (g170 r170) := by
  have hE : ∀ g f, (E170 r242 L170_0).env.fns g = some f → CallOk Tryz.prog g f := fnsL_ok ⟨k242, trivial⟩
  have h0 : LoopOk Tryz.prog Tryz.f170.ntmps (loopAt (bodyOf Tryz.f170) 0) (e170_0 L170_0) := lp_ok (E := E170 r242 L170_0) rfl hE mixed (AllLoops.of_list (l := []) (by kernel_rfl) trivial) (n170_0 r242 ) (fun _ _ _ => rfl) (fun n x y z => t170_0 r242 L170_0 _ x y z) rfl
  exact fn_ok (E := E170 r242 L170_0) rfl hE mixed (by kernel_rfl) (by kernel_rfl) (AllLoops.of_list (l := [(loopAt (bodyOf Tryz.f170) 0)]) (by kernel_rfl) (.one (by kernel_rfl) h0 trivial)) (s170 r242 L170_0)
@[reducible] def i139 : List Ty := [.a q4]
@[reducible] def o139 : List Ty := [.v (.bool)]
abbrev R139 := Option (PTup o139 × BTup i139)
abbrev F139 := PTup i139 → R139
abbrev g139 (c : F139) : Nat × Tev.Fn := (139, ⟨i139, o139, c, .nor⟩)
noncomputable def m139 (c168 : F168) (c232 : F232) (c170 : F170)  (y : PTup i139) : Option (PTup o139 × BTup i139) :=
  (c168 ((y.1.1, (y.1.2.1, (y.1.2.2.1, (y.1.2.2.2.1, (y.1.2.2.2.2.1, (y.1.2.2.2.2.2.1, (y.1.2.2.2.2.2.2.1, (y.1.2.2.2.2.2.2.2.1, ())))))))), ())).bind fun r0 =>
  bif (!r0.1.1) then (some ((false, ()), ()))
  else (c232 ((y.1.2.2.2.2.2.2.2.2.1, (y.1.2.2.2.2.2.2.2.2.2.1, ())), ())).bind fun r1 =>
  bif (!r1.1.1) then (some ((false, ()), ()))
  else bif (eqI (lenI y.1.2.2.2.2.2.2.2.2.2.1) (0 : Int)) then ((c170 (y.1.2.2.2.2.2.2.2.2.2.2.1, (y.1.1, ()))).bind fun r2 =>
   some (r2.1, ()))
  else bif (ltI (0 : Int) (lenI y.1.2.2.2.2.2.2.2.2.2.1)) then (bif (leI y.1.1 (rdE .t y.1.2.2.2.2.2.2.2.2.2.1 (0 : Int)).1) then ((c170 (y.1.2.2.2.2.2.2.2.2.2.2.1, (y.1.1, ()))).bind fun r2 =>
    some (r2.1, ()))
   else some ((false, ()), ()))
  else none
noncomputable def E139 (c168 : F168) (c232 : F232) (c170 : F170) := mkE [g168 c168, g232 c232, g170 c170]
theorem s139 (c168 : F168) (c232 : F232) (c170 : F170)  (y) : tevF (E139 c168 c232 c170 ) Tryz.f139 i139 o139 y = m139 c168 c232 c170  y := by kernel_rfl
noncomputable def r139 : F139 := m139 r168 r232 r170 
theorem k139 : CK Tryz.prog (g139 r139) := fn0 (s139 r168 r232 r170) (fnsL_ok ⟨k168, k232, k170, trivial⟩) rfl mixed (by kernel_rfl) (by kernel_rfl) (by kernel_rfl)
@[reducible] def i169 : List Ty := [.a q12]
@[reducible] def o169 : List Ty := [.v (.bool)]
abbrev R169 := Option (PTup o169 × BTup i169)
abbrev F169 := PTup i169 → R169
abbrev g169 (c : F169) : Nat × Tev.Fn := (169, ⟨i169, o169, c, .nor⟩)
noncomputable def m169 (c142 : F142) (c141 : F141)  (y : PTup i169) : Option (PTup o169 × BTup i169) :=
  (c142 (y.1.1, ((0 : Int), ((20000 : Int), ())))).bind fun r0 =>
  bif r0.1.1 then ((c141 (y.1.2.1, ())).bind fun r1 =>
   bif r1.1.1 then ((c141 (y.1.2.2.1, ())).bind fun r2 =>
    bif r2.1.1 then ((c142 (y.1.2.2.2.1, ((0 : Int), ((1 : Int), ())))).bind fun r3 =>
     bif r3.1.1 then ((c142 (y.1.2.2.2.2.1, ((0 : Int), ((31 : Int), ())))).bind fun r4 =>
      some (r4.1, ()))
     else some ((false, ()), ()))
    else some ((false, ()), ()))
   else some ((false, ()), ()))
  else some ((false, ()), ())
noncomputable def E169 (c142 : F142) (c141 : F141) := mkE [g142 c142, g141 c141]
theorem s169 (c142 : F142) (c141 : F141)  (y) : tevF (E169 c142 c141 ) Tryz.f169 i169 o169 y = m169 c142 c141  y := by kernel_rfl
noncomputable def r169 : F169 := m169 r142 r141 
theorem k169 : CK Tryz.prog (g169 r169) := fn0 (s169 r142 r141) (fnsL_ok ⟨k142, k141, trivial⟩) rfl mixed (by kernel_rfl) (by kernel_rfl) (by kernel_rfl)
@[reducible] def i140 : List Ty := [.a q5]
@[reducible] def o140 : List Ty := [.v (.bool)]
abbrev R140 := Option (PTup o140 × BTup i140)
abbrev F140 := PTup i140 → R140
abbrev g140 (c : F140) : Nat × Tev.Fn := (140, ⟨i140, o140, c, .nor⟩)
noncomputable def m140 (c169 : F169) (c232 : F232)  (y : PTup i140) : Option (PTup o140 × BTup i140) :=
  (c169 ((y.1.1, (y.1.2.1, (y.1.2.2.1, (y.1.2.2.2.1, (y.1.2.2.2.2.1, (y.1.2.2.2.2.2.1, (y.1.2.2.2.2.2.2.1, ()))))))), ())).bind fun r0 =>
  bif (!r0.1.1) then (some ((false, ()), ()))
  else (c232 ((y.1.2.2.2.2.2.2.2.1, (y.1.2.2.2.2.2.2.2.2.1, ())), ())).bind fun r1 =>
  bif (!r1.1.1) then (some ((false, ()), ()))
  else bif (eqI (lenI y.1.2.2.2.2.2.2.2.2.1) (0 : Int)) then (some (((eqI (lenI y.1.2.2.2.2.2.2.2.2.2.1) (wI (Int.tdiv y.1.1 (16 : Int)))), ()), ()))
  else bif (ltI (0 : Int) (lenI y.1.2.2.2.2.2.2.2.2.1)) then (bif (leI y.1.1 (rdE .t y.1.2.2.2.2.2.2.2.2.1 (0 : Int)).1) then (some (((eqI (lenI y.1.2.2.2.2.2.2.2.2.2.1) (wI (Int.tdiv y.1.1 (16 : Int)))), ()), ()))
   else some ((false, ()), ()))
  else none
noncomputable def E140 (c169 : F169) (c232 : F232) := mkE [g169 c169, g232 c232]
theorem s140 (c169 : F169) (c232 : F232)  (y) : tevF (E140 c169 c232 ) Tryz.f140 i140 o140 y = m140 c169 c232  y := by kernel_rfl
noncomputable def r140 : F140 := m140 r169 r232 
theorem k140 : CK Tryz.prog (g140 r140) := fn0 (s140 r169 r232) (fnsL_ok ⟨k169, k232, trivial⟩) rfl mixed (by kernel_rfl) (by kernel_rfl) (by kernel_rfl)
@[reducible] def i143 : List Ty := [.a q3]
@[reducible] def o143 : List Ty := [.v (.int .i64)]
abbrev R143 := Option (PTup o143 × BTup i143)
abbrev F143 := PTup i143 → R143
abbrev g143 (c : F143) : Nat × Tev.Fn := (143, ⟨i143, o143, c, .nor⟩)
noncomputable def m143   (y : PTup i143) : Option (PTup o143 × BTup i143) :=
  bif (eqI (lenI y.1.2.1) (0 : Int)) then (some (((0 : Int), ()), ()))
  else bif (leI (0 : Int) (wI ((lenI y.1.2.1) - (1 : Int)))) then (bif (ltI (wI ((lenI y.1.2.1) - (1 : Int))) (lenI y.1.2.1)) then (some (((rdE .t y.1.2.1 (wI ((lenI y.1.2.1) - (1 : Int)))).1, ()), ()))
   else none)
  else none
noncomputable def E143  := mkE []
theorem s143   (y) : tevF (E143  ) Tryz.f143 i143 o143 y = m143   y := by kernel_rfl
noncomputable def r143 : F143 := m143  
theorem k143 : CK Tryz.prog (g143 r143) := fn0 (s143 ) (fnsL_ok trivial) rfl mixed (by kernel_rfl) (by kernel_rfl) (by kernel_rfl)
@[reducible] def i59 : List Ty := [.a q6]
@[reducible] def o59 : List Ty := [.v (.bool)]
abbrev R59 := Option (PTup o59 × BTup i59)
abbrev F59 := PTup i59 → R59
abbrev g59 (c : F59) : Nat × Tev.Fn := (59, ⟨i59, o59, c, .nor⟩)
noncomputable def m59 (c138 : F138) (c137 : F137) (c136 : F136) (c139 : F139) (c140 : F140) (c143 : F143) (c142 : F142) (c141 : F141)  (y : PTup i59) : Option (PTup o59 × BTup i59) :=
  let a0 := y.1; let a1 := a0.2; let a2 := a1.2; let a3 := a2.2; let a4 := a3.2; let a5 := a4.2; let a6 := a5.2; let a7 := a6.2; let a8 := a7.2; let a9 := a8.2; let a10 := a9.2; let a11 := a10.2; let a12 := a11.2; let a13 := a12.2; let a14 := a13.2; let a15 := a14.2; let a16 := a15.2; let a17 := a16.2; let a18 := a17.2; let a19 := a18.2; let a20 := a19.2; let a21 := a20.2; let a22 := a21.2; let a23 := a22.2; let a24 := a23.2; let a25 := a24.2; let a26 := a25.2; let a27 := a26.2; let a28 := a27.2; let a29 := a28.2.2; let a30 := a29.2.2.2.2.2.2.2.2.2; (c136 (a1.1, ())).bind fun r0 =>
  bif (!r0.1.1) then (some ((false, ()), ()))
  else (c137 ((a0.1, ()), ((a2.1, (a3.1, ())), ()))).bind fun r1 =>
  bif (!r1.1.1) then (some ((false, ()), ()))
  else (c138 ((a4.1, (a5.1, (a6.1, (a7.1, (a8.1, (a9.1, (a10.1, (a11.1, ())))))))), ())).bind fun r2 =>
  bif (!r2.1.1) then (some ((false, ()), ()))
  else (c139 ((a21.1, (a22.1, (a23.1, (a24.1, (a25.1, (a26.1, (a27.1, (a28.1, (a28.2.1, (a29.1, (a29.2.1, ()))))))))))), ())).bind fun r3 =>
  bif (!r3.1.1) then (some ((false, ()), ()))
  else (c140 (a29.2.2, ())).bind fun r4 =>
  bif (!r4.1.1) then (some ((false, ()), ()))
  else (c141 (a13.1, ())).bind fun r5 =>
  bif (!r5.1.1) then (some ((false, ()), ()))
  else (c141 (a16.1, ())).bind fun r6 =>
  bif (!r6.1.1) then (some ((false, ()), ()))
  else (c142 (a14.1, ((0 : Int), ((20000 : Int), ())))).bind fun r7 =>
  bif (!r7.1.1) then (some ((false, ()), ()))
  else (c142 (a18.1, ((0 : Int), (a14.1, ())))).bind fun r8 =>
  bif (!r8.1.1) then (some ((false, ()), ()))
  else (c142 (a19.1, ((0 : Int), (a14.1, ())))).bind fun r9 =>
  bif (!r9.1.1) then (some ((false, ()), ()))
  else bif (ltI a14.1 a21.1) then (some ((false, ()), ()))
  else bif (ltI a14.1 a29.2.2.1) then (some ((false, ()), ()))
  else (c143 ((a28.2.1, (a29.1, ())), ())).bind fun r10 =>
  bif (leI r10.1.1 a14.1) then ((c143 ((a30.1, (a30.2.1, ())), ())).bind fun r11 =>
   some (((leI r11.1.1 a14.1), ()), ()))
  else some ((false, ()), ())
noncomputable def E59 (c138 : F138) (c137 : F137) (c136 : F136) (c139 : F139) (c140 : F140) (c143 : F143) (c142 : F142) (c141 : F141) := mkE [g138 c138, g137 c137, g136 c136, g139 c139, g140 c140, g143 c143, g142 c142, g141 c141]
theorem s59 (c138 : F138) (c137 : F137) (c136 : F136) (c139 : F139) (c140 : F140) (c143 : F143) (c142 : F142) (c141 : F141)  (y) : tevF (E59 c138 c137 c136 c139 c140 c143 c142 c141 ) Tryz.f59 i59 o59 y = m59 c138 c137 c136 c139 c140 c143 c142 c141  y := by kernel_rfl
noncomputable def r59 : F59 := m59 r138 r137 r136 r139 r140 r143 r142 r141 
theorem k59 : CK Tryz.prog (g59 r59) := fn0 (s59 r138 r137 r136 r139 r140 r143 r142 r141) (fnsL_ok ⟨k138, k137, k136, k139, k140, k143, k142, k141, trivial⟩) rfl mixed (by kernel_rfl) (by kernel_rfl) (by kernel_rfl)
@[reducible] def i262 : List Ty := [.v (.int .i64)]
@[reducible] def o262 : List Ty := [.v (.int .i64)]
abbrev R262 := Option (PTup o262 × BTup i262)
abbrev F262 := PTup i262 → R262
abbrev g262 (c : F262) : Nat × Tev.Fn := (262, ⟨i262, o262, c, .nor⟩)
noncomputable def m262   (y : PTup i262) : Option (PTup o262 × BTup i262) :=
  some (((bAnd Go.IntKind.i64 y.1 (255 : Int)), ()), ())
noncomputable def E262  := mkE []
theorem s262   (y) : tevF (E262  ) Tryz.f262 i262 o262 y = m262   y := by kernel_rfl
noncomputable def r262 : F262 := m262  
theorem k262 : CK Tryz.prog (g262 r262) := fn0 (s262 ) (fnsL_ok trivial) rfl mixed (by kernel_rfl) (by kernel_rfl) (by kernel_rfl)
@[reducible] def i213 : List Ty := [.a q2, .v (.int .i64), .v (.int .i64)]
@[reducible] def o213 : List Ty := [.a q10]
abbrev R213 := Option (PTup o213 × BTup i213)
abbrev F213 := PTup i213 → R213
abbrev g213 (c : F213) : Nat × Tev.Fn := (213, ⟨i213, o213, c, .nor⟩)
noncomputable def m213 (c262 : F262) (c168 : F168) (c171 : F171)  (y : PTup i213) : Option (PTup o213 × BTup i213) :=
  (c171 (y.1, ())).bind fun r0 =>
  (c168 (y.1, ())).bind fun r1 =>
  bif (!r1.1.1) then (some ((r0.1.1, ()), ()))
  else (c262 y.2.2).bind fun r2 =>
  bif (eqI y.2.1 (0 : Int)) then (some (((r0.1.1.1, (r2.1.1, r0.1.1.2.2)), ()), ()))
  else bif (eqI y.2.1 (1 : Int)) then (some (((r0.1.1.1, (r0.1.1.2.1, (r2.1.1, r0.1.1.2.2.2))), ()), ()))
  else bif (eqI y.2.1 (3 : Int)) then (some (((r0.1.1.1, (r0.1.1.2.1, (r0.1.1.2.2.1, ((Int.tmod r2.1.1 (16 : Int)), r0.1.1.2.2.2.2)))), ()), ()))
  else bif (eqI y.2.1 (4 : Int)) then (bif (leI (0 : Int) y.1.2.2.2.1) then (bif (ltI y.1.2.2.2.1 (lenI r0.1.1.2.2.2.2.2.2.1)) then (some (((r0.1.1.1, (r0.1.1.2.1, (r0.1.1.2.2.1, ((Int.tmod (wI (y.1.2.2.2.1 + (1 : Int))) (16 : Int)), (r0.1.1.2.2.2.2.1, (r0.1.1.2.2.2.2.2.1, ((List.set r0.1.1.2.2.2.2.2.2.1 (Int.toNat y.1.2.2.2.1) (Int.tmod r2.1.1 (64 : Int))), r0.1.1.2.2.2.2.2.2.2))))))), ()), ()))
    else none)
   else none)
  else bif (eqI y.2.1 (5 : Int)) then (some (((r0.1.1.1, (r0.1.1.2.1, (r0.1.1.2.2.1, (r0.1.1.2.2.2.1, ((Int.tmod r2.1.1 (64 : Int)), r0.1.1.2.2.2.2.2))))), ()), ()))
  else some ((r0.1.1, ()), ())
noncomputable def E213 (c262 : F262) (c168 : F168) (c171 : F171) := mkE [g262 c262, g168 c168, g171 c171]
theorem s213 (c262 : F262) (c168 : F168) (c171 : F171)  (y) : tevF (E213 c262 c168 c171 ) Tryz.f213 i213 o213 y = m213 c262 c168 c171  y := by kernel_rfl
noncomputable def r213 : F213 := m213 r262 r168 r171 
theorem k213 : CK Tryz.prog (g213 r213) := fn0 (s213 r262 r168 r171) (fnsL_ok ⟨k262, k168, k171, trivial⟩) rfl mixed (by kernel_rfl) (by kernel_rfl) (by kernel_rfl)
@[reducible] def i283 : List Ty := [.a q2, .v (.int .i64)]
@[reducible] def o283 : List Ty := [.v (.int .i64)]
abbrev R283 := Option (PTup o283 × BTup i283)
abbrev F283 := PTup i283 → R283
abbrev g283 (c : F283) : Nat × Tev.Fn := (283, ⟨i283, o283, c, .nor⟩)
noncomputable def m283   (y : PTup i283) : Option (PTup o283 × BTup i283) :=
  bif (leI (0 : Int) (Int.tmod (wI ((wI ((Int.tmod y.2.1 (8 : Int)) + y.1.2.2.1)) + (wI (Int.tdiv y.2.1 (8 : Int))))) (16 : Int))) then (bif (ltI (Int.tmod (wI ((wI ((Int.tmod y.2.1 (8 : Int)) + y.1.2.2.1)) + (wI (Int.tdiv y.2.1 (8 : Int))))) (16 : Int)) (lenI y.1.2.2.2.2.2.2.1)) then (some (((bXor Go.IntKind.i64 (rdE .i y.1.2.2.2.2.2.2.1 (Int.tmod (wI ((wI ((Int.tmod y.2.1 (8 : Int)) + y.1.2.2.1)) + (wI (Int.tdiv y.2.1 (8 : Int))))) (16 : Int))) y.1.2.2.2.2.1), ()), ()))
   else none)
  else none
noncomputable def E283  := mkE []
theorem s283   (y) : tevF (E283  ) Tryz.f283 i283 o283 y = m283   y := by kernel_rfl
noncomputable def r283 : F283 := m283  
theorem k283 : CK Tryz.prog (g283 r283) := fn0 (s283 ) (fnsL_ok trivial) rfl mixed (by kernel_rfl) (by kernel_rfl) (by kernel_rfl)
@[reducible] def i214 : List Ty := [.a q2]
@[reducible] def o214 : List Ty := [.a q10, .v (.sl true .i), .v (.bool)]
abbrev R214 := Option (PTup o214 × BTup i214)
abbrev F214 := PTup i214 → R214
abbrev g214 (c : F214) : Nat × Tev.Fn := (214, ⟨i214, o214, c, .nor⟩)
noncomputable def m214 (c171 : F171) (c283 : F283)  (y : PTup i214) : Option (PTup o214 × BTup i214) :=
  (c171 (y.1, ())).bind fun r0 =>
  bif (eqI y.1.1 (20000 : Int)) then (some ((r0.1.1, ([], (false, ()))), ()))
  else bif (ltI (Int.tmod y.1.1 (64 : Int)) (48 : Int)) then ((c283 (y.1, ((Int.tmod y.1.1 (64 : Int)), ()))).bind fun r1 =>
   bif (leN ((List.length r0.1.1.2.2.2.2.2.2.2.1) + (List.length (r1.1.1 :: []))) (E.most .i)) then (some ((((wI (y.1.1 + (1 : Int))), (r0.1.1.2.1, (r0.1.1.2.2.1, (r0.1.1.2.2.2.1, (r0.1.1.2.2.2.2.1, (r0.1.1.2.2.2.2.2.1, (r0.1.1.2.2.2.2.2.2.1, ((r0.1.1.2.2.2.2.2.2.2.1 ++ (r1.1.1 :: [])), ())))))))), ([], (false, ()))), ()))
   else none)
  else bif (eqI (Int.tmod y.1.1 (64 : Int)) (48 : Int)) then (bif (leN (0 + (List.length y.1.2.2.2.2.2.2.2.1)) (E.most .i)) then (some ((((wI (y.1.1 + (1 : Int))), (r0.1.1.2.1, (r0.1.1.2.2.1, (r0.1.1.2.2.2.1, (r0.1.1.2.2.2.2.1, (true, (r0.1.1.2.2.2.2.2.2.1, ([], ())))))))), (([] ++ y.1.2.2.2.2.2.2.2.1), ((ltI (127 : Int) y.1.2.1), ()))), ()))
   else none)
  else bif (eqI (Int.tmod y.1.1 (64 : Int)) (63 : Int)) then (some ((((wI (y.1.1 + (1 : Int))), (r0.1.1.2.1, (r0.1.1.2.2.1, (r0.1.1.2.2.2.1, (r0.1.1.2.2.2.2.1, (false, r0.1.1.2.2.2.2.2.2)))))), ([], (false, ()))), ()))
  else some ((((wI (y.1.1 + (1 : Int))), r0.1.1.2), ([], (false, ()))), ())
noncomputable def E214 (c171 : F171) (c283 : F283) := mkE [g171 c171, g283 c283]
theorem s214 (c171 : F171) (c283 : F283)  (y) : tevF (E214 c171 c283 ) Tryz.f214 i214 o214 y = m214 c171 c283  y := by kernel_rfl
noncomputable def r214 : F214 := m214 r171 r283 
theorem k214 : CK Tryz.prog (g214 r214) := fn0 (s214 r171 r283) (fnsL_ok ⟨k171, k283, trivial⟩) rfl mixed (by kernel_rfl) (by kernel_rfl) (by kernel_rfl)
@[reducible] def i215 : List Ty := [.a q12, .v (.int .i64), .v (.int .i64)]
@[reducible] def o215 : List Ty := [.a q12]
abbrev R215 := Option (PTup o215 × BTup i215)
abbrev F215 := PTup i215 → R215
abbrev g215 (c : F215) : Nat × Tev.Fn := (215, ⟨i215, o215, c, .nor⟩)
noncomputable def m215 (c169 : F169) (c262 : F262)  (y : PTup i215) : Option (PTup o215 × BTup i215) :=
  (c169 (y.1, ())).bind fun r0 =>
  bif (!r0.1.1) then (some ((y.1, ()), ()))
  else (c262 y.2.2).bind fun r1 =>
  bif (eqI y.2.1 (0 : Int)) then (some (((y.1.1, (r1.1.1, y.1.2.2)), ()), ()))
  else bif (eqI y.2.1 (1 : Int)) then (some (((y.1.1, (y.1.2.1, (y.1.2.2.1, (y.1.2.2.2.1, ((Int.tmod r1.1.1 (32 : Int)), y.1.2.2.2.2.2))))), ()), ()))
  else bif (eqI y.2.1 (2 : Int)) then (bif y.1.2.2.2.2.2.2.1 then (some (((y.1.1, (y.1.2.1, (y.1.2.2.1, (y.1.2.2.2.1, (y.1.2.2.2.2.1, ((eqI (Int.tmod r1.1.1 (2 : Int)) (1 : Int)), ((eqI (Int.tmod r1.1.1 (2 : Int)) (1 : Int)), ()))))))), ()), ()))
   else some (((y.1.1, (y.1.2.1, (y.1.2.2.1, (y.1.2.2.2.1, (y.1.2.2.2.2.1, ((eqI (Int.tmod r1.1.1 (2 : Int)) (1 : Int)), (false, ()))))))), ()), ()))
  else bif (eqI y.2.1 (3 : Int)) then (some (((y.1.1, (y.1.2.1, (y.1.2.2.1, (y.1.2.2.2.1, (y.1.2.2.2.2.1, (y.1.2.2.2.2.2.1, (false, ()))))))), ()), ()))
  else some ((y.1, ()), ())
noncomputable def E215 (c169 : F169) (c262 : F262) := mkE [g169 c169, g262 c262]
theorem s215 (c169 : F169) (c262 : F262)  (y) : tevF (E215 c169 c262 ) Tryz.f215 i215 o215 y = m215 c169 c262  y := by kernel_rfl
noncomputable def r215 : F215 := m215 r169 r262 
theorem k215 : CK Tryz.prog (g215 r215) := fn0 (s215 r169 r262) (fnsL_ok ⟨k169, k262, trivial⟩) rfl mixed (by kernel_rfl) (by kernel_rfl) (by kernel_rfl)
@[reducible] def i216 : List Ty := [.a q12]
@[reducible] def o216 : List Ty := [.a q12, .v (.int .i64), .v (.bool)]
abbrev R216 := Option (PTup o216 × BTup i216)
abbrev F216 := PTup i216 → R216
abbrev g216 (c : F216) : Nat × Tev.Fn := (216, ⟨i216, o216, c, .nor⟩)
noncomputable def m216   (y : PTup i216) : Option (PTup o216 × BTup i216) :=
  let a0 := y.1; let a1 := a0.1; let a2 := a0.2; let a3 := a2.1; let a4 := a2.2; let a5 := a4.1; let a6 := a4.2; let a7 := a6.1; let a8 := a6.2; let a9 := a8.1; let a10 := a8.2; let a11 := a10.1; let X0 : R216 := bif (eqI (Int.tmod a1 (16 : Int)) (15 : Int)) then (bif (ltI (0 : Int) a9) then (some ((((wI (a1 + (1 : Int))), (a3, (a3, ((wI ((1 : Int) - a7)), a8)))), ((wI ((8 : Int) * (wI ((1 : Int) - a7)))), ((eqI (Int.tmod a1 (16 : Int)) (15 : Int)), ()))), ())) else some ((((wI (a1 + (1 : Int))), (a3, (a3, ((wI ((1 : Int) - a7)), a8)))), ((0 : Int), ((eqI (Int.tmod a1 (16 : Int)) (15 : Int)), ()))), ())) else some ((((wI (a1 + (1 : Int))), (a3, (a3, ((wI ((1 : Int) - a7)), a8)))), ((0 : Int), ((eqI (Int.tmod a1 (16 : Int)) (15 : Int)), ()))), ()); let X1 : R216 := bif (eqI (Int.tmod a1 (16 : Int)) (15 : Int)) then (bif (ltI (0 : Int) a9) then (some ((((wI (a1 + (1 : Int))), (a3, ((wI (a5 - (1 : Int))), a6))), ((wI ((8 : Int) * a7)), ((eqI (Int.tmod a1 (16 : Int)) (15 : Int)), ()))), ())) else some ((((wI (a1 + (1 : Int))), (a3, ((wI (a5 - (1 : Int))), a6))), ((0 : Int), ((eqI (Int.tmod a1 (16 : Int)) (15 : Int)), ()))), ())) else some ((((wI (a1 + (1 : Int))), (a3, ((wI (a5 - (1 : Int))), a6))), ((0 : Int), ((eqI (Int.tmod a1 (16 : Int)) (15 : Int)), ()))), ()); let X2 : R216 := bif (eqI (Int.tmod a1 (16 : Int)) (15 : Int)) then (bif (ltI (0 : Int) a9) then (some ((((wI (a1 + (1 : Int))), (a3, (a3, a6))), ((wI ((8 : Int) * a7)), ((eqI (Int.tmod a1 (16 : Int)) (15 : Int)), ()))), ())) else some ((((wI (a1 + (1 : Int))), (a3, (a3, a6))), ((0 : Int), ((eqI (Int.tmod a1 (16 : Int)) (15 : Int)), ()))), ())) else some ((((wI (a1 + (1 : Int))), (a3, (a3, a6))), ((0 : Int), ((eqI (Int.tmod a1 (16 : Int)) (15 : Int)), ()))), ()); let X3 : R216 := some ((((wI (a1 + (1 : Int))), (a3, ((wI (a5 - (1 : Int))), (a7, ((wI (a9 - (1 : Int))), (a11, (a11, ()))))))), ((0 : Int), ((eqI (Int.tmod a1 (16 : Int)) (15 : Int)), ()))), ()); let X4 : R216 := some ((((wI (a1 + (1 : Int))), (a3, (a3, ((wI ((1 : Int) - a7)), ((wI (a9 - (1 : Int))), (a11, (a11, ()))))))), ((0 : Int), ((eqI (Int.tmod a1 (16 : Int)) (15 : Int)), ()))), ()); let X5 : R216 := some ((((wI (a1 + (1 : Int))), (a3, ((wI (a5 - (1 : Int))), (a7, ((wI (a9 - (1 : Int))), (a11, (false, ()))))))), ((0 : Int), ((eqI (Int.tmod a1 (16 : Int)) (15 : Int)), ()))), ()); let X6 : R216 := some ((((wI (a1 + (1 : Int))), (a3, ((wI (a5 - (1 : Int))), (a7, ((wI (a9 - (1 : Int))), (a11, (true, ()))))))), ((0 : Int), ((eqI (Int.tmod a1 (16 : Int)) (15 : Int)), ()))), ()); let X7 : R216 := some ((((wI (a1 + (1 : Int))), (a3, (a3, ((wI ((1 : Int) - a7)), ((wI (a9 - (1 : Int))), (a11, (false, ()))))))), ((0 : Int), ((eqI (Int.tmod a1 (16 : Int)) (15 : Int)), ()))), ()); let X8 : R216 := some ((((wI (a1 + (1 : Int))), (a3, (a3, ((wI ((1 : Int) - a7)), ((wI (a9 - (1 : Int))), (a11, (true, ()))))))), ((0 : Int), ((eqI (Int.tmod a1 (16 : Int)) (15 : Int)), ()))), ()); let X9 : R216 := some ((((wI (a1 + (1 : Int))), (a3, (a3, (a7, ((wI (a9 - (1 : Int))), (a11, (a11, ()))))))), ((0 : Int), ((eqI (Int.tmod a1 (16 : Int)) (15 : Int)), ()))), ()); let X10 : R216 := some ((((wI (a1 + (1 : Int))), (a3, (a3, (a7, ((wI (a9 - (1 : Int))), (a11, (false, ()))))))), ((0 : Int), ((eqI (Int.tmod a1 (16 : Int)) (15 : Int)), ()))), ()); let X11 : R216 := some ((((wI (a1 + (1 : Int))), (a3, (a3, (a7, ((wI (a9 - (1 : Int))), (a11, (true, ()))))))), ((0 : Int), ((eqI (Int.tmod a1 (16 : Int)) (15 : Int)), ()))), ()); bif (eqI a1 (20000 : Int)) then (some ((a0, ((0 : Int), (false, ()))), ())) else bif (eqI a5 (0 : Int)) then (bif (ltI (0 : Int) a9) then (bif (eqI (Int.tmod a1 (32 : Int)) (0 : Int)) then (bif (ltI (0 : Int) a9) then (bif a10.2.1 then (bif (eqI (Int.tmod a1 (16 : Int)) (15 : Int)) then (bif (ltI (0 : Int) (wI (a9 - (1 : Int)))) then (some ((((wI (a1 + (1 : Int))), (a3, (a3, ((wI ((1 : Int) - a7)), ((wI (a9 - (1 : Int))), (a11, (true, ()))))))), ((wI ((8 : Int) * (wI ((1 : Int) - a7)))), ((eqI (Int.tmod a1 (16 : Int)) (15 : Int)), ()))), ())) else X8) else X8) else bif (eqI (wI (a9 - (1 : Int))) (0 : Int)) then (bif (eqI (Int.tmod a1 (16 : Int)) (15 : Int)) then (bif (ltI (0 : Int) (wI (a9 - (1 : Int)))) then (some ((((wI (a1 + (1 : Int))), (a3, (a3, ((wI ((1 : Int) - a7)), ((wI (a9 - (1 : Int))), (a11, (a11, ()))))))), ((wI ((8 : Int) * (wI ((1 : Int) - a7)))), ((eqI (Int.tmod a1 (16 : Int)) (15 : Int)), ()))), ())) else X4) else X4) else bif (eqI (Int.tmod a1 (16 : Int)) (15 : Int)) then (bif (ltI (0 : Int) (wI (a9 - (1 : Int)))) then (some ((((wI (a1 + (1 : Int))), (a3, (a3, ((wI ((1 : Int) - a7)), ((wI (a9 - (1 : Int))), (a11, (false, ()))))))), ((wI ((8 : Int) * (wI ((1 : Int) - a7)))), ((eqI (Int.tmod a1 (16 : Int)) (15 : Int)), ()))), ())) else X7) else X7) else X0) else X0) else bif (eqI (Int.tmod a1 (32 : Int)) (0 : Int)) then (bif (ltI (0 : Int) a9) then (bif a10.2.1 then (bif (eqI (Int.tmod a1 (16 : Int)) (15 : Int)) then (bif (ltI (0 : Int) (wI (a9 - (1 : Int)))) then (some ((((wI (a1 + (1 : Int))), (a3, (a3, (a7, ((wI (a9 - (1 : Int))), (a11, (true, ()))))))), ((wI ((8 : Int) * a7)), ((eqI (Int.tmod a1 (16 : Int)) (15 : Int)), ()))), ())) else X11) else X11) else bif (eqI (wI (a9 - (1 : Int))) (0 : Int)) then (bif (eqI (Int.tmod a1 (16 : Int)) (15 : Int)) then (bif (ltI (0 : Int) (wI (a9 - (1 : Int)))) then (some ((((wI (a1 + (1 : Int))), (a3, (a3, (a7, ((wI (a9 - (1 : Int))), (a11, (a11, ()))))))), ((wI ((8 : Int) * a7)), ((eqI (Int.tmod a1 (16 : Int)) (15 : Int)), ()))), ())) else X9) else X9) else bif (eqI (Int.tmod a1 (16 : Int)) (15 : Int)) then (bif (ltI (0 : Int) (wI (a9 - (1 : Int)))) then (some ((((wI (a1 + (1 : Int))), (a3, (a3, (a7, ((wI (a9 - (1 : Int))), (a11, (false, ()))))))), ((wI ((8 : Int) * a7)), ((eqI (Int.tmod a1 (16 : Int)) (15 : Int)), ()))), ())) else X10) else X10) else X2) else X2) else bif (eqI (Int.tmod a1 (32 : Int)) (0 : Int)) then (bif (ltI (0 : Int) a9) then (bif a10.2.1 then (bif (eqI (Int.tmod a1 (16 : Int)) (15 : Int)) then (bif (ltI (0 : Int) (wI (a9 - (1 : Int)))) then (some ((((wI (a1 + (1 : Int))), (a3, ((wI (a5 - (1 : Int))), (a7, ((wI (a9 - (1 : Int))), (a11, (true, ()))))))), ((wI ((8 : Int) * a7)), ((eqI (Int.tmod a1 (16 : Int)) (15 : Int)), ()))), ())) else X6) else X6) else bif (eqI (wI (a9 - (1 : Int))) (0 : Int)) then (bif (eqI (Int.tmod a1 (16 : Int)) (15 : Int)) then (bif (ltI (0 : Int) (wI (a9 - (1 : Int)))) then (some ((((wI (a1 + (1 : Int))), (a3, ((wI (a5 - (1 : Int))), (a7, ((wI (a9 - (1 : Int))), (a11, (a11, ()))))))), ((wI ((8 : Int) * a7)), ((eqI (Int.tmod a1 (16 : Int)) (15 : Int)), ()))), ())) else X3) else X3) else bif (eqI (Int.tmod a1 (16 : Int)) (15 : Int)) then (bif (ltI (0 : Int) (wI (a9 - (1 : Int)))) then (some ((((wI (a1 + (1 : Int))), (a3, ((wI (a5 - (1 : Int))), (a7, ((wI (a9 - (1 : Int))), (a11, (false, ()))))))), ((wI ((8 : Int) * a7)), ((eqI (Int.tmod a1 (16 : Int)) (15 : Int)), ()))), ())) else X5) else X5) else X1) else X1
noncomputable def E216  := mkE []
theorem s216   (y) : tevF (E216  ) Tryz.f216 i216 o216 y = m216   y := by kernel_rfl
noncomputable def r216 : F216 := m216  
theorem k216 : CK Tryz.prog (g216 r216) := fn0 (s216 ) (fnsL_ok trivial) rfl mixed (by kernel_rfl) (by kernel_rfl) (by kernel_rfl)
@[reducible] def i147 : List Ty := [.v (.sl false .i)]
@[reducible] def o147 : List Ty := [.v (.sl true .i)]
abbrev R147 := Option (PTup o147 × BTup i147)
abbrev F147 := PTup i147 → R147
abbrev g147 (c : F147) : Nat × Tev.Fn := (147, ⟨i147, o147, c, .nor⟩)
noncomputable def m147   (y : PTup i147) : Option (PTup o147 × BTup i147) :=
  bif (leN (0 + (List.length y.1)) (E.most .i)) then (some ((([] ++ y.1), ()), ()))
  else none
noncomputable def E147  := mkE []
theorem s147   (y) : tevF (E147  ) Tryz.f147 i147 o147 y = m147   y := by kernel_rfl
noncomputable def r147 : F147 := m147  
theorem k147 : CK Tryz.prog (g147 r147) := fn0 (s147 ) (fnsL_ok trivial) rfl mixed (by kernel_rfl) (by kernel_rfl) (by kernel_rfl)
@[reducible] def i146 : List Ty := [.a q0]
@[reducible] def o146 : List Ty := [.a [.sl true .n]]
abbrev R146 := Option (PTup o146 × BTup i146)
abbrev F146 := PTup i146 → R146
abbrev g146 (c : F146) : Nat × Tev.Fn := (146, ⟨i146, o146, c, .nor⟩)
@[reducible] def lc146_0 : List Ty := [.v (.sl false .n), .v (.int .i64)]
@[reducible] def lb146_0 : List Ty := [.p [.sl true .n]]
@[reducible] def lv146_0 : List Ty := [.v (.int .i64)]
@[reducible] def lr146_0 : List Ty := []
abbrev R146_0 := Option (Sum (PTup lv146_0) (PTup lr146_0) × BTup lb146_0)
abbrev B146_0 := PTup lb146_0 → PTup lv146_0 → R146_0
abbrev A146_0 := PTup lc146_0 → B146_0
noncomputable def w146_0 (c147 : F147)  (again : B146_0) (x : PTup lc146_0) (y : PTup lb146_0) (z : PTup lv146_0) : R146_0 :=
  bif (ltI z.1 x.2.1) then (bif (leI (0 : Int) z.1) then (bif (ltI z.1 (lenI x.1)) then ((c147 ((rdE .n x.1 z.1), ())).bind fun r0 =>
     bif (leN ((List.length y.1.1) + (List.length (r0.1.1 :: []))) (E.most .n)) then (again (((y.1.1 ++ (r0.1.1 :: [])), ()), ()) ((wI (z.1 + (1 : Int))), ()))
     else none)
    else none)
   else none)
  else some ((Sum.inl z), (y.1, ()))
noncomputable def e146_0 (l : A146_0) : LoopE := ⟨[8, 9], lc146_0, [3], lb146_0, [10], lv146_0, [], lr146_0, 0, [], l⟩
noncomputable def m146 (c147 : F147) (l0 : A146_0) (y : PTup i146) : Option (PTup o146 × BTup i146) :=
  (l0 (y.1.1, ((lenI y.1.1), ())) (([], ()), ()) ((0 : Int), ())).bind fun r0 =>
  sumElim r0.1 (fun r1 => some ((r0.2.1, ()), ()))
  (fun r1 => some ((([], ()), ()), ()))
noncomputable def E146 (c147 : F147) (l0 : A146_0) : CEnv := ⟨⟨Tryz.prog, fnsL [g147 c147]⟩, loopsL [(3, e146_0 l0)]⟩
theorem t146_0 (c147 : F147) (l0 : A146_0) (again) (x y z) : loopRound (E146 c147 l0) (loopAt (bodyOf Tryz.f146) 0) (e146_0 l0) Tryz.f146.ntmps again x y z = w146_0 c147  again x y z := by kernel_rfl
noncomputable def n146_0 (c147 : F147)  : Nat → A146_0
  | 0, _, _, _ => none
  | n + 1, x, y, z => w146_0 c147  (fun y z => n146_0 c147  n x y z) x y z
theorem s146 (c147 : F147) (l0 : A146_0) (y) : tevF (E146 c147 l0) Tryz.f146 i146 o146 y = m146 c147 l0 y := by kernel_rfl
noncomputable def L146_0 : A146_0 := n146_0 r147  fuel
noncomputable def r146 : F146 := m146 r147 L146_0
theorem k146 : CK Tryz.prog (g146 r146) := by
  have hE : ∀ g f, (E146 r147 L146_0).env.fns g = some f → CallOk Tryz.prog g f := fnsL_ok ⟨k147, trivial⟩
  have h0 : LoopOk Tryz.prog Tryz.f146.ntmps (loopAt (bodyOf Tryz.f146) 0) (e146_0 L146_0) := lp_ok (E := E146 r147 L146_0) rfl hE mixed (AllLoops.of_list (l := []) (by kernel_rfl) trivial) (n146_0 r147 ) (fun _ _ _ => rfl) (fun n x y z => t146_0 r147 L146_0 _ x y z) rfl
  exact fn_ok (E := E146 r147 L146_0) rfl hE mixed (by kernel_rfl) (by kernel_rfl) (AllLoops.of_list (l := [(loopAt (bodyOf Tryz.f146) 0)]) (by kernel_rfl) (.one (by kernel_rfl) h0 trivial)) (s146 r147 L146_0)
@[reducible] def i148 : List Ty := [.a q1]
@[reducible] def o148 : List Ty := [.a q7]
abbrev R148 := Option (PTup o148 × BTup i148)
abbrev F148 := PTup i148 → R148
abbrev g148 (c : F148) : Nat × Tev.Fn := (148, ⟨i148, o148, c, .nor⟩)
noncomputable def m148 (c147 : F147)  (y : PTup i148) : Option (PTup o148 × BTup i148) :=
  (c147 (y.1.1, ())).bind fun r0 =>
  some (((r0.1.1, y.1.2), ()), ())
noncomputable def E148 (c147 : F147) := mkE [g147 c147]
theorem s148 (c147 : F147)  (y) : tevF (E148 c147 ) Tryz.f148 i148 o148 y = m148 c147  y := by kernel_rfl
noncomputable def r148 : F148 := m148 r147 
theorem k148 : CK Tryz.prog (g148 r148) := fn0 (s148 r147) (fnsL_ok ⟨k147, trivial⟩) rfl mixed (by kernel_rfl) (by kernel_rfl) (by kernel_rfl)
@[reducible] def i178 : List Ty := [.a q2]
@[reducible] def o178 : List Ty := [.a q10]
abbrev R178 := Option (PTup o178 × BTup i178)
abbrev F178 := PTup i178 → R178
abbrev g178 (c : F178) : Nat × Tev.Fn := (178, ⟨i178, o178, c, .nor⟩)
noncomputable def m178 (c147 : F147)  (y : PTup i178) : Option (PTup o178 × BTup i178) :=
  (c147 (y.1.2.2.2.2.2.2.1, ())).bind fun r0 =>
  (c147 y.1.2.2.2.2.2.2.2).bind fun r1 =>
  some (((y.1.1, (y.1.2.1, (y.1.2.2.1, (y.1.2.2.2.1, (y.1.2.2.2.2.1, (y.1.2.2.2.2.2.1, (r0.1.1, r1.1))))))), ()), ())
noncomputable def E178 (c147 : F147) := mkE [g147 c147]
theorem s178 (c147 : F147)  (y) : tevF (E178 c147 ) Tryz.f178 i178 o178 y = m178 c147  y := by kernel_rfl
noncomputable def r178 : F178 := m178 r147 
theorem k178 : CK Tryz.prog (g178 r178) := fn0 (s178 r147) (fnsL_ok ⟨k147, trivial⟩) rfl mixed (by kernel_rfl) (by kernel_rfl) (by kernel_rfl)
@[reducible] def i179 : List Ty := [.v (.sl false .n)]
@[reducible] def o179 : List Ty := [.v (.sl true .n)]
abbrev R179 := Option (PTup o179 × BTup i179)
abbrev F179 := PTup i179 → R179
abbrev g179 (c : F179) : Nat × Tev.Fn := (179, ⟨i179, o179, c, .nor⟩)
@[reducible] def lc179_0 : List Ty := [.v (.sl false .n), .v (.int .i64)]
@[reducible] def lb179_0 : List Ty := []
@[reducible] def lv179_0 : List Ty := [.v (.sl true .n), .v (.int .i64)]
@[reducible] def lr179_0 : List Ty := []
abbrev R179_0 := Option (Sum (PTup lv179_0) (PTup lr179_0) × BTup lb179_0)
abbrev B179_0 := PTup lb179_0 → PTup lv179_0 → R179_0
abbrev A179_0 := PTup lc179_0 → B179_0
noncomputable def w179_0 (c147 : F147)  (again : B179_0) (x : PTup lc179_0) (y : PTup lb179_0) (z : PTup lv179_0) : R179_0 :=
  bif (ltI z.2.1 x.2.1) then (bif (leI (0 : Int) z.2.1) then (bif (ltI z.2.1 (lenI x.1)) then ((c147 ((rdE .n x.1 z.2.1), ())).bind fun r0 =>
     bif (leN ((List.length z.1) + (List.length (r0.1.1 :: []))) (E.most .n)) then (again () ((z.1 ++ (r0.1.1 :: [])), ((wI (z.2.1 + (1 : Int))), ())))
     else none)
    else none)
   else none)
  else some ((Sum.inl z), ())
noncomputable def e179_0 (l : A179_0) : LoopE := ⟨[7, 8], lc179_0, [], lb179_0, [3, 9], lv179_0, [], lr179_0, 0, [], l⟩
noncomputable def m179 (c147 : F147) (l0 : A179_0) (y : PTup i179) : Option (PTup o179 × BTup i179) :=
  (l0 (y.1, ((lenI y.1), ())) () ([], ((0 : Int), ()))).bind fun r0 =>
  sumElim r0.1 (fun r1 => some ((r1.1, ()), ()))
  (fun r1 => some (([], ()), ()))
noncomputable def E179 (c147 : F147) (l0 : A179_0) : CEnv := ⟨⟨Tryz.prog, fnsL [g147 c147]⟩, loopsL [(3, e179_0 l0)]⟩
theorem t179_0 (c147 : F147) (l0 : A179_0) (again) (x y z) : loopRound (E179 c147 l0) (loopAt (bodyOf Tryz.f179) 0) (e179_0 l0) Tryz.f179.ntmps again x y z = w179_0 c147  again x y z := by kernel_rfl
noncomputable def n179_0 (c147 : F147)  : Nat → A179_0
  | 0, _, _, _ => none
  | n + 1, x, y, z => w179_0 c147  (fun y z => n179_0 c147  n x y z) x y z
theorem s179 (c147 : F147) (l0 : A179_0) (y) : tevF (E179 c147 l0) Tryz.f179 i179 o179 y = m179 c147 l0 y := by kernel_rfl
noncomputable def L179_0 : A179_0 := n179_0 r147  fuel
noncomputable def r179 : F179 := m179 r147 L179_0
theorem k179 : CK Tryz.prog (g179 r179) := by
  have hE : ∀ g f, (E179 r147 L179_0).env.fns g = some f → CallOk Tryz.prog g f := fnsL_ok ⟨k147, trivial⟩
  have h0 : LoopOk Tryz.prog Tryz.f179.ntmps (loopAt (bodyOf Tryz.f179) 0) (e179_0 L179_0) := lp_ok (E := E179 r147 L179_0) rfl hE mixed (AllLoops.of_list (l := []) (by kernel_rfl) trivial) (n179_0 r147 ) (fun _ _ _ => rfl) (fun n x y z => t179_0 r147 L179_0 _ x y z) rfl
  exact fn_ok (E := E179 r147 L179_0) rfl hE mixed (by kernel_rfl) (by kernel_rfl) (AllLoops.of_list (l := [(loopAt (bodyOf Tryz.f179) 0)]) (by kernel_rfl) (.one (by kernel_rfl) h0 trivial)) (s179 r147 L179_0)
@[reducible] def i158 : List Ty := [.v (.int .i64), .v (.int .i64), .v (.int .i64)]
@[reducible] def o158 : List Ty := [.v (.bool)]
abbrev R158 := Option (PTup o158 × BTup i158)
abbrev F158 := PTup i158 → R158
abbrev g158 (c : F158) : Nat × Tev.Fn := (158, ⟨i158, o158, c, .nor⟩)
noncomputable def m158   (y : PTup i158) : Option (PTup o158 × BTup i158) :=
  bif (leI y.2.1 y.1) then (some (((leI y.1 y.2.2.1), ()), ()))
  else some ((false, ()), ())
noncomputable def E158  := mkE []
theorem s158   (y) : tevF (E158  ) Tryz.f158 i158 o158 y = m158   y := by kernel_rfl
noncomputable def r158 : F158 := m158  
theorem k158 : CK Tryz.prog (g158 r158) := fn0 (s158 ) (fnsL_ok trivial) rfl mixed (by kernel_rfl) (by kernel_rfl) (by kernel_rfl)
@[reducible] def i156 : List Ty := [.v (.int .i64)]
@[reducible] def o156 : List Ty := [.v (.bool)]
abbrev R156 := Option (PTup o156 × BTup i156)
abbrev F156 := PTup i156 → R156
abbrev g156 (c : F156) : Nat × Tev.Fn := (156, ⟨i156, o156, c, .nor⟩)
noncomputable def m156 (c158 : F158)  (y : PTup i156) : Option (PTup o156 × BTup i156) :=
  (c158 (y.1, ((0 : Int), ((255 : Int), ())))).bind fun r0 =>
  some (r0.1, ())
noncomputable def E156 (c158 : F158) := mkE [g158 c158]
theorem s156 (c158 : F158)  (y) : tevF (E156 c158 ) Tryz.f156 i156 o156 y = m156 c158  y := by kernel_rfl
noncomputable def r156 : F156 := m156 r158 
theorem k156 : CK Tryz.prog (g156 r156) := fn0 (s156 r158) (fnsL_ok ⟨k158, trivial⟩) rfl mixed (by kernel_rfl) (by kernel_rfl) (by kernel_rfl)
@[reducible] def i236 : List Ty := [.v (.sl false .i)]
@[reducible] def o236 : List Ty := [.v (.bool)]
abbrev R236 := Option (PTup o236 × BTup i236)
abbrev F236 := PTup i236 → R236
abbrev g236 (c : F236) : Nat × Tev.Fn := (236, ⟨i236, o236, c, .nor⟩)
@[reducible] def lc236_0 : List Ty := [.v (.sl false .i), .v (.int .i64)]
@[reducible] def lb236_0 : List Ty := []
@[reducible] def lv236_0 : List Ty := [.v (.int .i64)]
@[reducible] def lr236_0 : List Ty := [.v (.bool)]
abbrev R236_0 := Option (Sum (PTup lv236_0) (PTup lr236_0) × BTup lb236_0)
abbrev B236_0 := PTup lb236_0 → PTup lv236_0 → R236_0
abbrev A236_0 := PTup lc236_0 → B236_0
noncomputable def w236_0 (c156 : F156)  (again : B236_0) (x : PTup lc236_0) (y : PTup lb236_0) (z : PTup lv236_0) : R236_0 :=
  bif (ltI z.1 x.2.1) then (bif (leI (0 : Int) z.1) then (bif (ltI z.1 (lenI x.1)) then ((c156 ((rdE .i x.1 z.1), ())).bind fun r0 =>
     bif (!r0.1.1) then (some ((Sum.inr (false, ())), ()))
     else again () ((wI (z.1 + (1 : Int))), ()))
    else none)
   else none)
  else some ((Sum.inl z), ())
noncomputable def e236_0 (l : A236_0) : LoopE := ⟨[5, 6], lc236_0, [], lb236_0, [7], lv236_0, [2], lr236_0, 0, [], l⟩
noncomputable def m236 (c156 : F156) (l0 : A236_0) (y : PTup i236) : Option (PTup o236 × BTup i236) :=
  (l0 (y.1, ((lenI y.1), ())) () ((0 : Int), ())).bind fun r0 =>
  sumElim r0.1 (fun r1 => some ((true, ()), ()))
  (fun r1 => some (r1, ()))
noncomputable def E236 (c156 : F156) (l0 : A236_0) : CEnv := ⟨⟨Tryz.prog, fnsL [g156 c156]⟩, loopsL [(2, e236_0 l0)]⟩
theorem t236_0 (c156 : F156) (l0 : A236_0) (again) (x y z) : loopRound (E236 c156 l0) (loopAt (bodyOf Tryz.f236) 0) (e236_0 l0) Tryz.f236.ntmps again x y z = w236_0 c156  again x y z := by kernel_rfl
noncomputable def n236_0 (c156 : F156)  : Nat → A236_0
  | 0, _, _, _ => none
  | n + 1, x, y, z => w236_0 c156  (fun y z => n236_0 c156  n x y z) x y z
theorem s236 (c156 : F156) (l0 : A236_0) (y) : tevF (E236 c156 l0) Tryz.f236 i236 o236 y = m236 c156 l0 y := by kernel_rfl
noncomputable def L236_0 : A236_0 := n236_0 r156  fuel
noncomputable def r236 : F236 := m236 r156 L236_0
theorem k236 : CK Tryz.prog (g236 r236) := by
  have hE : ∀ g f, (E236 r156 L236_0).env.fns g = some f → CallOk Tryz.prog g f := fnsL_ok ⟨k156, trivial⟩
  have h0 : LoopOk Tryz.prog Tryz.f236.ntmps (loopAt (bodyOf Tryz.f236) 0) (e236_0 L236_0) := lp_ok (E := E236 r156 L236_0) rfl hE mixed (AllLoops.of_list (l := []) (by kernel_rfl) trivial) (n236_0 r156 ) (fun _ _ _ => rfl) (fun n x y z => t236_0 r156 L236_0 _ x y z) rfl
  exact fn_ok (E := E236 r156 L236_0) rfl hE mixed (by kernel_rfl) (by kernel_rfl) (AllLoops.of_list (l := [(loopAt (bodyOf Tryz.f236) 0)]) (by kernel_rfl) (.one (by kernel_rfl) h0 trivial)) (s236 r156 L236_0)
@[reducible] def i235 : List Ty := [.a q0]
@[reducible] def o235 : List Ty := [.v (.bool)]
abbrev R235 := Option (PTup o235 × BTup i235)
abbrev F235 := PTup i235 → R235
abbrev g235 (c : F235) : Nat × Tev.Fn := (235, ⟨i235, o235, c, .nor⟩)
@[reducible] def lc235_0 : List Ty := [.v (.sl false .n), .v (.int .i64)]
@[reducible] def lb235_0 : List Ty := []
@[reducible] def lv235_0 : List Ty := [.v (.int .i64)]
@[reducible] def lr235_0 : List Ty := [.v (.bool)]
abbrev R235_0 := Option (Sum (PTup lv235_0) (PTup lr235_0) × BTup lb235_0)
abbrev B235_0 := PTup lb235_0 → PTup lv235_0 → R235_0
abbrev A235_0 := PTup lc235_0 → B235_0
noncomputable def w235_0 (c236 : F236) (c158 : F158)  (again : B235_0) (x : PTup lc235_0) (y : PTup lb235_0) (z : PTup lv235_0) : R235_0 :=
  bif (ltI z.1 x.2.1) then (bif (leI (0 : Int) z.1) then (bif (ltI z.1 (lenI x.1)) then (bif (neI (lenI (rdE .n x.1 z.1)) (256 : Int)) then (some ((Sum.inr (false, ())), ()))
     else (c236 ((rdE .n x.1 z.1), ())).bind fun r0 =>
     bif (!r0.1.1) then (some ((Sum.inr (false, ())), ()))
     else again () ((wI (z.1 + (1 : Int))), ()))
    else none)
   else none)
  else some ((Sum.inl z), ())
noncomputable def e235_0 (l : A235_0) : LoopE := ⟨[6, 7], lc235_0, [], lb235_0, [8], lv235_0, [2], lr235_0, 0, [], l⟩
noncomputable def m235 (c236 : F236) (c158 : F158) (l0 : A235_0) (y : PTup i235) : Option (PTup o235 × BTup i235) :=
  (l0 (y.1.1, ((lenI y.1.1), ())) () ((0 : Int), ())).bind fun r0 =>
  sumElim r0.1 (fun r1 => (c158 ((lenI y.1.1), ((1 : Int), ((8 : Int), ())))).bind fun r2 =>
   some (r2.1, ()))
  (fun r1 => some (r1, ()))
noncomputable def E235 (c236 : F236) (c158 : F158) (l0 : A235_0) : CEnv := ⟨⟨Tryz.prog, fnsL [g236 c236, g158 c158]⟩, loopsL [(2, e235_0 l0)]⟩
theorem t235_0 (c236 : F236) (c158 : F158) (l0 : A235_0) (again) (x y z) : loopRound (E235 c236 c158 l0) (loopAt (bodyOf Tryz.f235) 0) (e235_0 l0) Tryz.f235.ntmps again x y z = w235_0 c236 c158  again x y z := by kernel_rfl
noncomputable def n235_0 (c236 : F236) (c158 : F158)  : Nat → A235_0
  | 0, _, _, _ => none
  | n + 1, x, y, z => w235_0 c236 c158  (fun y z => n235_0 c236 c158  n x y z) x y z
theorem s235 (c236 : F236) (c158 : F158) (l0 : A235_0) (y) : tevF (E235 c236 c158 l0) Tryz.f235 i235 o235 y = m235 c236 c158 l0 y := by kernel_rfl
noncomputable def L235_0 : A235_0 := n235_0 r236 r158  fuel
noncomputable def r235 : F235 := m235 r236 r158 L235_0
theorem k235 : CK Tryz.prog (g235 r235) := by
  have hE : ∀ g f, (E235 r236 r158 L235_0).env.fns g = some f → CallOk Tryz.prog g f := fnsL_ok ⟨k236, k158, trivial⟩
  have h0 : LoopOk Tryz.prog Tryz.f235.ntmps (loopAt (bodyOf Tryz.f235) 0) (e235_0 L235_0) := lp_ok (E := E235 r236 r158 L235_0) rfl hE mixed (AllLoops.of_list (l := []) (by kernel_rfl) trivial) (n235_0 r236 r158 ) (fun _ _ _ => rfl) (fun n x y z => t235_0 r236 r158 L235_0 _ x y z) rfl
  exact fn_ok (E := E235 r236 r158 L235_0) rfl hE mixed (by kernel_rfl) (by kernel_rfl) (AllLoops.of_list (l := [(loopAt (bodyOf Tryz.f235) 0)]) (by kernel_rfl) (.one (by kernel_rfl) h0 trivial)) (s235 r236 r158 L235_0)
@[reducible] def i151 : List Ty := [.a q0, .a q1]
@[reducible] def o151 : List Ty := [.v (.bool)]
abbrev R151 := Option (PTup o151 × BTup i151)
abbrev F151 := PTup i151 → R151
abbrev g151 (c : F151) : Nat × Tev.Fn := (151, ⟨i151, o151, c, .nor⟩)
noncomputable def m151 (c235 : F235) (c236 : F236) (c158 : F158)  (y : PTup i151) : Option (PTup o151 × BTup i151) :=
  (c235 (y.1, ())).bind fun r0 =>
  bif r0.1.1 then (bif (eqI (lenI y.2.1.1) (512 : Int)) then ((c236 (y.2.1.1, ())).bind fun r1 =>
    bif r1.1.1 then ((c158 (y.2.1.2.1, ((0 : Int), ((wI ((lenI y.1.1) - (1 : Int))), ())))).bind fun r2 =>
     some (r2.1, ()))
    else some ((false, ()), ()))
   else some ((false, ()), ()))
  else some ((false, ()), ())
noncomputable def E151 (c235 : F235) (c236 : F236) (c158 : F158) := mkE [g235 c235, g236 c236, g158 c158]
theorem s151 (c235 : F235) (c236 : F236) (c158 : F158)  (y) : tevF (E151 c235 c236 c158 ) Tryz.f151 i151 o151 y = m151 c235 c236 c158  y := by kernel_rfl
noncomputable def r151 : F151 := m151 r235 r236 r158 
theorem k151 : CK Tryz.prog (g151 r151) := fn0 (s151 r235 r236 r158) (fnsL_ok ⟨k235, k236, k158, trivial⟩) rfl mixed (by kernel_rfl) (by kernel_rfl) (by kernel_rfl)
@[reducible] def i152 : List Ty := [.v (.sl false .i)]
@[reducible] def o152 : List Ty := [.v (.bool)]
abbrev R152 := Option (PTup o152 × BTup i152)
abbrev F152 := PTup i152 → R152
abbrev g152 (c : F152) : Nat × Tev.Fn := (152, ⟨i152, o152, c, .nor⟩)
noncomputable def m152 (c236 : F236)  (y : PTup i152) : Option (PTup o152 × BTup i152) :=
  bif (leI (lenI y.1) (20 : Int)) then ((c236 y).bind fun r0 =>
   some (r0.1, ()))
  else some ((false, ()), ())
noncomputable def E152 (c236 : F236) := mkE [g236 c236]
theorem s152 (c236 : F236)  (y) : tevF (E152 c236 ) Tryz.f152 i152 o152 y = m152 c236  y := by kernel_rfl
noncomputable def r152 : F152 := m152 r236 
theorem k152 : CK Tryz.prog (g152 r152) := fn0 (s152 r236) (fnsL_ok ⟨k236, trivial⟩) rfl mixed (by kernel_rfl) (by kernel_rfl) (by kernel_rfl)
@[reducible] def i153 : List Ty := [.a q8]
@[reducible] def o153 : List Ty := [.v (.bool)]
abbrev R153 := Option (PTup o153 × BTup i153)
abbrev F153 := PTup i153 → R153
abbrev g153 (c : F153) : Nat × Tev.Fn := (153, ⟨i153, o153, c, .nor⟩)
noncomputable def m153 (c156 : F156) (c158 : F158)  (y : PTup i153) : Option (PTup o153 × BTup i153) :=
  (c156 (y.1.1, ())).bind fun r0 =>
  bif r0.1.1 then ((c156 (y.1.2.1, ())).bind fun r1 =>
   bif r1.1.1 then ((c156 (y.1.2.2.1, ())).bind fun r2 =>
    bif r2.1.1 then ((c158 (y.1.2.2.2.1, ((0 : Int), ((65535 : Int), ())))).bind fun r3 =>
     some (r3.1, ()))
    else some ((false, ()), ()))
   else some ((false, ()), ()))
  else some ((false, ()), ())
noncomputable def E153 (c156 : F156) (c158 : F158) := mkE [g156 c156, g158 c158]
theorem s153 (c156 : F156) (c158 : F158)  (y) : tevF (E153 c156 c158 ) Tryz.f153 i153 o153 y = m153 c156 c158  y := by kernel_rfl
noncomputable def r153 : F153 := m153 r156 r158 
theorem k153 : CK Tryz.prog (g153 r153) := fn0 (s153 r156 r158) (fnsL_ok ⟨k156, k158, trivial⟩) rfl mixed (by kernel_rfl) (by kernel_rfl) (by kernel_rfl)
@[reducible] def i157 : List Ty := [.v (.int .i64)]
@[reducible] def o157 : List Ty := [.v (.bool)]
abbrev R157 := Option (PTup o157 × BTup i157)
abbrev F157 := PTup i157 → R157
abbrev g157 (c : F157) : Nat × Tev.Fn := (157, ⟨i157, o157, c, .nor⟩)
noncomputable def m157 (c158 : F158)  (y : PTup i157) : Option (PTup o157 × BTup i157) :=
  (c158 (y.1, ((0 : Int), ((20000 : Int), ())))).bind fun r0 =>
  some (r0.1, ())
noncomputable def E157 (c158 : F158) := mkE [g158 c158]
theorem s157 (c158 : F158)  (y) : tevF (E157 c158 ) Tryz.f157 i157 o157 y = m157 c158  y := by kernel_rfl
noncomputable def r157 : F157 := m157 r158 
theorem k157 : CK Tryz.prog (g157 r157) := fn0 (s157 r158) (fnsL_ok ⟨k158, trivial⟩) rfl mixed (by kernel_rfl) (by kernel_rfl) (by kernel_rfl)
@[reducible] def i245 : List Ty := [.v (.sl false .i)]
@[reducible] def o245 : List Ty := [.v (.bool)]
abbrev R245 := Option (PTup o245 × BTup i245)
abbrev F245 := PTup i245 → R245
abbrev g245 (c : F245) : Nat × Tev.Fn := (245, ⟨i245, o245, c, .nor⟩)
@[reducible] def lc245_0 : List Ty := [.v (.sl false .i), .v (.int .i64)]
@[reducible] def lb245_0 : List Ty := []
@[reducible] def lv245_0 : List Ty := [.v (.int .i64)]
@[reducible] def lr245_0 : List Ty := [.v (.bool)]
abbrev R245_0 := Option (Sum (PTup lv245_0) (PTup lr245_0) × BTup lb245_0)
abbrev B245_0 := PTup lb245_0 → PTup lv245_0 → R245_0
abbrev A245_0 := PTup lc245_0 → B245_0
noncomputable def w245_0 (c158 : F158)  (again : B245_0) (x : PTup lc245_0) (y : PTup lb245_0) (z : PTup lv245_0) : R245_0 :=
  bif (ltI z.1 x.2.1) then (bif (leI (0 : Int) z.1) then (bif (ltI z.1 (lenI x.1)) then ((c158 ((rdE .i x.1 z.1), ((0 : Int), ((63 : Int), ())))).bind fun r0 =>
     bif (!r0.1.1) then (some ((Sum.inr (false, ())), ()))
     else again () ((wI (z.1 + (1 : Int))), ()))
    else none)
   else none)
  else some ((Sum.inl z), ())
noncomputable def e245_0 (l : A245_0) : LoopE := ⟨[5, 6], lc245_0, [], lb245_0, [7], lv245_0, [2], lr245_0, 0, [], l⟩
noncomputable def m245 (c158 : F158) (l0 : A245_0) (y : PTup i245) : Option (PTup o245 × BTup i245) :=
  (l0 (y.1, ((lenI y.1), ())) () ((0 : Int), ())).bind fun r0 =>
  sumElim r0.1 (fun r1 => some ((true, ()), ()))
  (fun r1 => some (r1, ()))
noncomputable def E245 (c158 : F158) (l0 : A245_0) : CEnv := ⟨⟨Tryz.prog, fnsL [g158 c158]⟩, loopsL [(2, e245_0 l0)]⟩
theorem t245_0 (c158 : F158) (l0 : A245_0) (again) (x y z) : loopRound (E245 c158 l0) (loopAt (bodyOf Tryz.f245) 0) (e245_0 l0) Tryz.f245.ntmps again x y z = w245_0 c158  again x y z := by kernel_rfl
noncomputable def n245_0 (c158 : F158)  : Nat → A245_0
  | 0, _, _, _ => none
  | n + 1, x, y, z => w245_0 c158  (fun y z => n245_0 c158  n x y z) x y z
theorem s245 (c158 : F158) (l0 : A245_0) (y) : tevF (E245 c158 l0) Tryz.f245 i245 o245 y = m245 c158 l0 y := by kernel_rfl
noncomputable def L245_0 : A245_0 := n245_0 r158  fuel
noncomputable def r245 : F245 := m245 r158 L245_0
theorem k245 : CK Tryz.prog (g245 r245) := by
  have hE : ∀ g f, (E245 r158 L245_0).env.fns g = some f → CallOk Tryz.prog g f := fnsL_ok ⟨k158, trivial⟩
  have h0 : LoopOk Tryz.prog Tryz.f245.ntmps (loopAt (bodyOf Tryz.f245) 0) (e245_0 L245_0) := lp_ok (E := E245 r158 L245_0) rfl hE mixed (AllLoops.of_list (l := []) (by kernel_rfl) trivial) (n245_0 r158 ) (fun _ _ _ => rfl) (fun n x y z => t245_0 r158 L245_0 _ x y z) rfl
  exact fn_ok (E := E245 r158 L245_0) rfl hE mixed (by kernel_rfl) (by kernel_rfl) (AllLoops.of_list (l := [(loopAt (bodyOf Tryz.f245) 0)]) (by kernel_rfl) (.one (by kernel_rfl) h0 trivial)) (s245 r158 L245_0)
@[reducible] def i174 : List Ty := [.a q2]
@[reducible] def o174 : List Ty := [.v (.bool)]
abbrev R174 := Option (PTup o174 × BTup i174)
abbrev F174 := PTup i174 → R174
abbrev g174 (c : F174) : Nat × Tev.Fn := (174, ⟨i174, o174, c, .nor⟩)
noncomputable def m174 (c245 : F245) (c156 : F156) (c157 : F157) (c158 : F158)  (y : PTup i174) : Option (PTup o174 × BTup i174) :=
  (c157 (y.1.1, ())).bind fun r0 =>
  bif (!r0.1.1) then (some ((false, ()), ()))
  else (c156 (y.1.2.1, ())).bind fun r1 =>
  bif (!r1.1.1) then (some ((false, ()), ()))
  else (c156 (y.1.2.2.1, ())).bind fun r2 =>
  bif (!r2.1.1) then (some ((false, ()), ()))
  else (c158 (y.1.2.2.2.1, ((0 : Int), ((15 : Int), ())))).bind fun r3 =>
  bif (!r3.1.1) then (some ((false, ()), ()))
  else (c158 (y.1.2.2.2.2.1, ((0 : Int), ((63 : Int), ())))).bind fun r4 =>
  bif (!r4.1.1) then (some ((false, ()), ()))
  else bif (ltI (48 : Int) (Int.tmod y.1.1 (64 : Int))) then (bif (eqI (lenI y.1.2.2.2.2.2.2.1) (16 : Int)) then ((c245 (y.1.2.2.2.2.2.2.1, ())).bind fun r5 =>
    bif r5.1.1 then (bif (eqI (lenI y.1.2.2.2.2.2.2.2.1) (0 : Int)) then ((c245 y.1.2.2.2.2.2.2.2).bind fun r6 =>
      some (r6.1, ()))
     else some ((false, ()), ()))
    else some ((false, ()), ()))
   else some ((false, ()), ()))
  else bif (eqI (lenI y.1.2.2.2.2.2.2.1) (16 : Int)) then ((c245 (y.1.2.2.2.2.2.2.1, ())).bind fun r5 =>
   bif r5.1.1 then (bif (eqI (lenI y.1.2.2.2.2.2.2.2.1) (Int.tmod y.1.1 (64 : Int))) then ((c245 y.1.2.2.2.2.2.2.2).bind fun r6 =>
     some (r6.1, ()))
    else some ((false, ()), ()))
   else some ((false, ()), ()))
  else some ((false, ()), ())
noncomputable def E174 (c245 : F245) (c156 : F156) (c157 : F157) (c158 : F158) := mkE [g245 c245, g156 c156, g157 c157, g158 c158]
theorem s174 (c245 : F245) (c156 : F156) (c157 : F157) (c158 : F158)  (y) : tevF (E174 c245 c156 c157 c158 ) Tryz.f174 i174 o174 y = m174 c245 c156 c157 c158  y := by kernel_rfl
noncomputable def r174 : F174 := m174 r245 r156 r157 r158 
theorem k174 : CK Tryz.prog (g174 r174) := fn0 (s174 r245 r156 r157 r158) (fnsL_ok ⟨k245, k156, k157, k158, trivial⟩) rfl mixed (by kernel_rfl) (by kernel_rfl) (by kernel_rfl)
@[reducible] def i290 : List Ty := [.a q3]
@[reducible] def o290 : List Ty := [.v (.bool)]
abbrev R290 := Option (PTup o290 × BTup i290)
abbrev F290 := PTup i290 → R290
abbrev g290 (c : F290) : Nat × Tev.Fn := (290, ⟨i290, o290, c, .nor⟩)
@[reducible] def lc290_0 : List Ty := [.v (.sl false .t), .v (.int .i64)]
@[reducible] def lb290_0 : List Ty := [.p q3]
@[reducible] def lv290_0 : List Ty := [.v (.int .i64)]
@[reducible] def lr290_0 : List Ty := [.v (.bool)]
abbrev R290_0 := Option (Sum (PTup lv290_0) (PTup lr290_0) × BTup lb290_0)
abbrev B290_0 := PTup lb290_0 → PTup lv290_0 → R290_0
abbrev A290_0 := PTup lc290_0 → B290_0
noncomputable def w290_0 (c156 : F156) (c157 : F157) (c158 : F158)  (again : B290_0) (x : PTup lc290_0) (y : PTup lb290_0) (z : PTup lv290_0) : R290_0 :=
  let X0 : R290_0 := (c158 ((rdE .t x.1 z.1).2.1, ((0 : Int), ((7 : Int), ())))).bind fun r1 => bif (!r1.1.1) then (some ((Sum.inr (false, ())), (y.1, ()))) else (c156 ((rdE .t x.1 z.1).2.2, ())).bind fun r2 => bif (!r2.1.1) then (some ((Sum.inr (false, ())), (y.1, ()))) else again (y.1, ()) ((wI (z.1 + (1 : Int))), ()); bif (ltI z.1 x.2.1) then (bif (leI (0 : Int) z.1) then (bif (ltI z.1 (lenI x.1)) then ((c157 ((rdE .t x.1 z.1).1, ())).bind fun r0 => bif (!r0.1.1) then (some ((Sum.inr (false, ())), (y.1, ()))) else bif (ltI (0 : Int) z.1) then (bif (leI (0 : Int) (wI (z.1 - (1 : Int)))) then (bif (ltI (wI (z.1 - (1 : Int))) (lenI y.1.2.1)) then (bif (ltI (rdE .t x.1 z.1).1 (rdE .t y.1.2.1 (wI (z.1 - (1 : Int)))).1) then (some ((Sum.inr (false, ())), (y.1, ()))) else X0) else none) else none) else X0) else none) else none) else some ((Sum.inl z), (y.1, ()))
noncomputable def e290_0 (l : A290_0) : LoopE := ⟨[6, 7], lc290_0, [1], lb290_0, [8], lv290_0, [2], lr290_0, 0, [], l⟩
noncomputable def m290 (c156 : F156) (c157 : F157) (c158 : F158) (l0 : A290_0) (y : PTup i290) : Option (PTup o290 × BTup i290) :=
  (l0 (y.1.2.1, ((lenI y.1.2.1), ())) (y.1, ()) ((0 : Int), ())).bind fun r0 =>
  sumElim r0.1 (fun r1 => (c158 (r0.2.1.1, ((1 : Int), ((16 : Int), ())))).bind fun r2 =>
   bif r2.1.1 then (some (((leI (lenI y.1.2.1) r0.2.1.1), ()), ()))
   else some ((false, ()), ()))
  (fun r1 => some (r1, ()))
noncomputable def E290 (c156 : F156) (c157 : F157) (c158 : F158) (l0 : A290_0) : CEnv := ⟨⟨Tryz.prog, fnsL [g156 c156, g157 c157, g158 c158]⟩, loopsL [(2, e290_0 l0)]⟩
theorem t290_0 (c156 : F156) (c157 : F157) (c158 : F158) (l0 : A290_0) (again) (x y z) : loopRound (E290 c156 c157 c158 l0) (loopAt (bodyOf Tryz.f290) 0) (e290_0 l0) Tryz.f290.ntmps again x y z = w290_0 c156 c157 c158  again x y z := by kernel_rfl
noncomputable def n290_0 (c156 : F156) (c157 : F157) (c158 : F158)  : Nat → A290_0
  | 0, _, _, _ => none
  | n + 1, x, y, z => w290_0 c156 c157 c158  (fun y z => n290_0 c156 c157 c158  n x y z) x y z
theorem s290 (c156 : F156) (c157 : F157) (c158 : F158) (l0 : A290_0) (y) : tevF (E290 c156 c157 c158 l0) Tryz.f290 i290 o290 y = m290 c156 c157 c158 l0 y := by kernel_rfl
noncomputable def L290_0 : A290_0 := n290_0 r156 r157 r158  fuel
noncomputable def r290 : F290 := m290 r156 r157 r158 L290_0
theorem k290 : CK Tryz.prog (g290 r290) := by
  have hE : ∀ g f, (E290 r156 r157 r158 L290_0).env.fns g = some f → CallOk Tryz.prog g f := fnsL_ok ⟨k156, k157, k158, trivial⟩
  have h0 : LoopOk Tryz.prog Tryz.f290.ntmps (loopAt (bodyOf Tryz.f290) 0) (e290_0 L290_0) := lp_ok (E := E290 r156 r157 r158 L290_0) rfl hE mixed (AllLoops.of_list (l := []) (by kernel_rfl) trivial) (n290_0 r156 r157 r158 ) (fun _ _ _ => rfl) (fun n x y z => t290_0 r156 r157 r158 L290_0 _ x y z) rfl
  exact fn_ok (E := E290 r156 r157 r158 L290_0) rfl hE mixed (by kernel_rfl) (by kernel_rfl) (AllLoops.of_list (l := [(loopAt (bodyOf Tryz.f290) 0)]) (by kernel_rfl) (.one (by kernel_rfl) h0 trivial)) (s290 r156 r157 r158 L290_0)
@[reducible] def i237 : List Ty := [.a q3, .v (.int .i64)]
@[reducible] def o237 : List Ty := [.v (.bool)]
abbrev R237 := Option (PTup o237 × BTup i237)
abbrev F237 := PTup i237 → R237
abbrev g237 (c : F237) : Nat × Tev.Fn := (237, ⟨i237, o237, c, .nor⟩)
noncomputable def m237 (c290 : F290)  (y : PTup i237) : Option (PTup o237 × BTup i237) :=
  (c290 (y.1, ())).bind fun r0 =>
  bif r0.1.1 then (bif (eqI (lenI y.1.2.1) (0 : Int)) then (some ((true, ()), ()))
   else bif (ltI (0 : Int) (lenI y.1.2.1)) then (some (((leI y.2.1 (rdE .t y.1.2.1 (0 : Int)).1), ()), ()))
   else none)
  else some ((false, ()), ())
noncomputable def E237 (c290 : F290) := mkE [g290 c290]
theorem s237 (c290 : F290)  (y) : tevF (E237 c290 ) Tryz.f237 i237 o237 y = m237 c290  y := by kernel_rfl
noncomputable def r237 : F237 := m237 r290 
theorem k237 : CK Tryz.prog (g237 r237) := fn0 (s237 r290) (fnsL_ok ⟨k290, trivial⟩) rfl mixed (by kernel_rfl) (by kernel_rfl) (by kernel_rfl)
@[reducible] def i246 : List Ty := [.v (.int .i64), .v (.int .i64), .v (.int .i64)]
@[reducible] def o246 : List Ty := [.v (.int .i64)]
abbrev R246 := Option (PTup o246 × BTup i246)
abbrev F246 := PTup i246 → R246
abbrev g246 (c : F246) : Nat × Tev.Fn := (246, ⟨i246, o246, c, .nor⟩)
noncomputable def m246   (y : PTup i246) : Option (PTup o246 × BTup i246) :=
  bif (neI y.2.2.1 (0 : Int)) then (some (((wI (Int.tdiv (wI ((wI ((wI (y.1 + y.2.2.1)) - (1 : Int))) - y.2.1)) y.2.2.1)), ()), ()))
  else none
noncomputable def E246  := mkE []
theorem s246   (y) : tevF (E246  ) Tryz.f246 i246 o246 y = m246   y := by kernel_rfl
noncomputable def r246 : F246 := m246  
theorem k246 : CK Tryz.prog (g246 r246) := fn0 (s246 ) (fnsL_ok trivial) rfl mixed (by kernel_rfl) (by kernel_rfl) (by kernel_rfl)
@[reducible] def i176 : List Ty := [.v (.sl false .n), .v (.int .i64)]
@[reducible] def o176 : List Ty := [.v (.bool)]
abbrev R176 := Option (PTup o176 × BTup i176)
abbrev F176 := PTup i176 → R176
abbrev g176 (c : F176) : Nat × Tev.Fn := (176, ⟨i176, o176, c, .nor⟩)
@[reducible] def lc176_0 : List Ty := [.v (.sl false .n), .v (.int .i64)]
@[reducible] def lb176_0 : List Ty := []
@[reducible] def lv176_0 : List Ty := [.v (.int .i64)]
@[reducible] def lr176_0 : List Ty := [.v (.bool)]
abbrev R176_0 := Option (Sum (PTup lv176_0) (PTup lr176_0) × BTup lb176_0)
abbrev B176_0 := PTup lb176_0 → PTup lv176_0 → R176_0
abbrev A176_0 := PTup lc176_0 → B176_0
noncomputable def w176_0 (c246 : F246)  (again : B176_0) (x : PTup lc176_0) (y : PTup lb176_0) (z : PTup lv176_0) : R176_0 :=
  bif (ltI z.1 x.2.1) then (bif (leI (0 : Int) z.1) then (bif (ltI z.1 (lenI x.1)) then (bif (neI (lenI (rdE .n x.1 z.1)) (48 : Int)) then (some ((Sum.inr (false, ())), ()))
     else again () ((wI (z.1 + (1 : Int))), ()))
    else none)
   else none)
  else some ((Sum.inl z), ())
noncomputable def e176_0 (l : A176_0) : LoopE := ⟨[7, 8], lc176_0, [], lb176_0, [9], lv176_0, [4], lr176_0, 0, [], l⟩
noncomputable def m176 (c246 : F246) (l0 : A176_0) (y : PTup i176) : Option (PTup o176 × BTup i176) :=
  (l0 (y.1, ((lenI y.1), ())) () ((0 : Int), ())).bind fun r0 =>
  sumElim r0.1 (fun r1 => (c246 (y.2.1, ((48 : Int), ((64 : Int), ())))).bind fun r2 =>
   some (((eqI (lenI y.1) r2.1.1), ()), ()))
  (fun r1 => some (r1, ()))
noncomputable def E176 (c246 : F246) (l0 : A176_0) : CEnv := ⟨⟨Tryz.prog, fnsL [g246 c246]⟩, loopsL [(2, e176_0 l0)]⟩
theorem t176_0 (c246 : F246) (l0 : A176_0) (again) (x y z) : loopRound (E176 c246 l0) (loopAt (bodyOf Tryz.f176) 0) (e176_0 l0) Tryz.f176.ntmps again x y z = w176_0 c246  again x y z := by kernel_rfl
noncomputable def n176_0 (c246 : F246)  : Nat → A176_0
  | 0, _, _, _ => none
  | n + 1, x, y, z => w176_0 c246  (fun y z => n176_0 c246  n x y z) x y z
theorem s176 (c246 : F246) (l0 : A176_0) (y) : tevF (E176 c246 l0) Tryz.f176 i176 o176 y = m176 c246 l0 y := by kernel_rfl
noncomputable def L176_0 : A176_0 := n176_0 r246  fuel
noncomputable def r176 : F176 := m176 r246 L176_0
theorem k176 : CK Tryz.prog (g176 r176) := by
  have hE : ∀ g f, (E176 r246 L176_0).env.fns g = some f → CallOk Tryz.prog g f := fnsL_ok ⟨k246, trivial⟩
  have h0 : LoopOk Tryz.prog Tryz.f176.ntmps (loopAt (bodyOf Tryz.f176) 0) (e176_0 L176_0) := lp_ok (E := E176 r246 L176_0) rfl hE mixed (AllLoops.of_list (l := []) (by kernel_rfl) trivial) (n176_0 r246 ) (fun _ _ _ => rfl) (fun n x y z => t176_0 r246 L176_0 _ x y z) rfl
  exact fn_ok (E := E176 r246 L176_0) rfl hE mixed (by kernel_rfl) (by kernel_rfl) (AllLoops.of_list (l := [(loopAt (bodyOf Tryz.f176) 0)]) (by kernel_rfl) (.one (by kernel_rfl) h0 trivial)) (s176 r246 L176_0)
@[reducible] def i154 : List Ty := [.a q4]
@[reducible] def o154 : List Ty := [.v (.bool)]
abbrev R154 := Option (PTup o154 × BTup i154)
abbrev F154 := PTup i154 → R154
abbrev g154 (c : F154) : Nat × Tev.Fn := (154, ⟨i154, o154, c, .nor⟩)
noncomputable def m154 (c174 : F174) (c176 : F176) (c237 : F237)  (y : PTup i154) : Option (PTup o154 × BTup i154) :=
  (c174 ((y.1.1, (y.1.2.1, (y.1.2.2.1, (y.1.2.2.2.1, (y.1.2.2.2.2.1, (y.1.2.2.2.2.2.1, (y.1.2.2.2.2.2.2.1, (y.1.2.2.2.2.2.2.2.1, ())))))))), ())).bind fun r0 =>
  bif r0.1.1 then ((c237 ((y.1.2.2.2.2.2.2.2.2.1, (y.1.2.2.2.2.2.2.2.2.2.1, ())), (y.1.1, ()))).bind fun r1 =>
   bif r1.1.1 then ((c176 (y.1.2.2.2.2.2.2.2.2.2.2.1, (y.1.1, ()))).bind fun r2 =>
    some (r2.1, ()))
   else some ((false, ()), ()))
  else some ((false, ()), ())
noncomputable def E154 (c174 : F174) (c176 : F176) (c237 : F237) := mkE [g174 c174, g176 c176, g237 c237]
theorem s154 (c174 : F174) (c176 : F176) (c237 : F237)  (y) : tevF (E154 c174 c176 c237 ) Tryz.f154 i154 o154 y = m154 c174 c176 c237  y := by kernel_rfl
noncomputable def r154 : F154 := m154 r174 r176 r237 
theorem k154 : CK Tryz.prog (g154 r154) := fn0 (s154 r174 r176 r237) (fnsL_ok ⟨k174, k176, k237, trivial⟩) rfl mixed (by kernel_rfl) (by kernel_rfl) (by kernel_rfl)
@[reducible] def i175 : List Ty := [.a q12]
@[reducible] def o175 : List Ty := [.v (.bool)]
abbrev R175 := Option (PTup o175 × BTup i175)
abbrev F175 := PTup i175 → R175
abbrev g175 (c : F175) : Nat × Tev.Fn := (175, ⟨i175, o175, c, .nor⟩)
noncomputable def m175 (c156 : F156) (c157 : F157) (c158 : F158)  (y : PTup i175) : Option (PTup o175 × BTup i175) :=
  (c157 (y.1.1, ())).bind fun r0 =>
  bif r0.1.1 then ((c156 (y.1.2.1, ())).bind fun r1 =>
   bif r1.1.1 then ((c156 (y.1.2.2.1, ())).bind fun r2 =>
    bif r2.1.1 then ((c158 (y.1.2.2.2.1, ((0 : Int), ((1 : Int), ())))).bind fun r3 =>
     bif r3.1.1 then ((c158 (y.1.2.2.2.2.1, ((0 : Int), ((31 : Int), ())))).bind fun r4 =>
      some (r4.1, ()))
     else some ((false, ()), ()))
    else some ((false, ()), ()))
   else some ((false, ()), ()))
  else some ((false, ()), ())
noncomputable def E175 (c156 : F156) (c157 : F157) (c158 : F158) := mkE [g156 c156, g157 c157, g158 c158]
theorem s175 (c156 : F156) (c157 : F157) (c158 : F158)  (y) : tevF (E175 c156 c157 c158 ) Tryz.f175 i175 o175 y = m175 c156 c157 c158  y := by kernel_rfl
noncomputable def r175 : F175 := m175 r156 r157 r158 
theorem k175 : CK Tryz.prog (g175 r175) := fn0 (s175 r156 r157 r158) (fnsL_ok ⟨k156, k157, k158, trivial⟩) rfl mixed (by kernel_rfl) (by kernel_rfl) (by kernel_rfl)
@[reducible] def i177 : List Ty := [.v (.sl false .i), .v (.int .i64)]
@[reducible] def o177 : List Ty := [.v (.bool)]
abbrev R177 := Option (PTup o177 × BTup i177)
abbrev F177 := PTup i177 → R177
abbrev g177 (c : F177) : Nat × Tev.Fn := (177, ⟨i177, o177, c, .nor⟩)
noncomputable def m177 (c246 : F246)  (y : PTup i177) : Option (PTup o177 × BTup i177) :=
  (c246 (y.2.1, ((15 : Int), ((16 : Int), ())))).bind fun r0 =>
  some (((eqI (lenI y.1) r0.1.1), ()), ())
noncomputable def E177 (c246 : F246) := mkE [g246 c246]
theorem s177 (c246 : F246)  (y) : tevF (E177 c246 ) Tryz.f177 i177 o177 y = m177 c246  y := by kernel_rfl
noncomputable def r177 : F177 := m177 r246 
theorem k177 : CK Tryz.prog (g177 r177) := fn0 (s177 r246) (fnsL_ok ⟨k246, trivial⟩) rfl mixed (by kernel_rfl) (by kernel_rfl) (by kernel_rfl)
@[reducible] def i155 : List Ty := [.a q5]
@[reducible] def o155 : List Ty := [.v (.bool)]
abbrev R155 := Option (PTup o155 × BTup i155)
abbrev F155 := PTup i155 → R155
abbrev g155 (c : F155) : Nat × Tev.Fn := (155, ⟨i155, o155, c, .nor⟩)
noncomputable def m155 (c175 : F175) (c237 : F237) (c177 : F177)  (y : PTup i155) : Option (PTup o155 × BTup i155) :=
  (c175 ((y.1.1, (y.1.2.1, (y.1.2.2.1, (y.1.2.2.2.1, (y.1.2.2.2.2.1, (y.1.2.2.2.2.2.1, (y.1.2.2.2.2.2.2.1, ()))))))), ())).bind fun r0 =>
  bif r0.1.1 then ((c237 ((y.1.2.2.2.2.2.2.2.1, (y.1.2.2.2.2.2.2.2.2.1, ())), (y.1.1, ()))).bind fun r1 =>
   bif r1.1.1 then ((c177 (y.1.2.2.2.2.2.2.2.2.2.1, (y.1.1, ()))).bind fun r2 =>
    some (r2.1, ()))
   else some ((false, ()), ()))
  else some ((false, ()), ())
noncomputable def E155 (c175 : F175) (c237 : F237) (c177 : F177) := mkE [g175 c175, g237 c237, g177 c177]
theorem s155 (c175 : F175) (c237 : F237) (c177 : F177)  (y) : tevF (E155 c175 c237 c177 ) Tryz.f155 i155 o155 y = m155 c175 c237 c177  y := by kernel_rfl
noncomputable def r155 : F155 := m155 r175 r237 r177 
theorem k155 : CK Tryz.prog (g155 r155) := fn0 (s155 r175 r237 r177) (fnsL_ok ⟨k175, k237, k177, trivial⟩) rfl mixed (by kernel_rfl) (by kernel_rfl) (by kernel_rfl)
@[reducible] def i159 : List Ty := [.a q3, .v (.int .i64)]
@[reducible] def o159 : List Ty := [.v (.bool)]
abbrev R159 := Option (PTup o159 × BTup i159)
abbrev F159 := PTup i159 → R159
abbrev g159 (c : F159) : Nat × Tev.Fn := (159, ⟨i159, o159, c, .nor⟩)
noncomputable def m159   (y : PTup i159) : Option (PTup o159 × BTup i159) :=
  bif (eqI (lenI y.1.2.1) (0 : Int)) then (some ((true, ()), ()))
  else bif (leI (0 : Int) (wI ((lenI y.1.2.1) - (1 : Int)))) then (bif (ltI (wI ((lenI y.1.2.1) - (1 : Int))) (lenI y.1.2.1)) then (some (((leI (rdE .t y.1.2.1 (wI ((lenI y.1.2.1) - (1 : Int)))).1 y.2.1), ()), ()))
   else none)
  else none
noncomputable def E159  := mkE []
theorem s159   (y) : tevF (E159  ) Tryz.f159 i159 o159 y = m159   y := by kernel_rfl
noncomputable def r159 : F159 := m159  
theorem k159 : CK Tryz.prog (g159 r159) := fn0 (s159 ) (fnsL_ok trivial) rfl mixed (by kernel_rfl) (by kernel_rfl) (by kernel_rfl)
@[reducible] def i69 : List Ty := [.a q6]
@[reducible] def o69 : List Ty := [.v (.bool)]
abbrev R69 := Option (PTup o69 × BTup i69)
abbrev F69 := PTup i69 → R69
abbrev g69 (c : F69) : Nat × Tev.Fn := (69, ⟨i69, o69, c, .nor⟩)
noncomputable def m69 (c153 : F153) (c151 : F151) (c152 : F152) (c154 : F154) (c155 : F155) (c156 : F156) (c157 : F157) (c159 : F159) (c158 : F158)  (y : PTup i69) : Option (PTup o69 × BTup i69) :=
  let a0 := y.1; let a1 := a0.2; let a2 := a1.2; let a3 := a2.2; let a4 := a3.2; let a5 := a4.2; let a6 := a5.2; let a7 := a6.2; let a8 := a7.2; let a9 := a8.2; let a10 := a9.2; let a11 := a10.2; let a12 := a11.2; let a13 := a12.2; let a14 := a13.2; let a15 := a14.1; let a16 := a14.2; let a17 := a16.2; let a18 := a17.2; let a19 := a18.2; let a20 := a19.2; let a21 := a20.2; let a22 := a21.2; let a23 := a22.2; let a24 := a23.2; let a25 := a24.2; let a26 := a25.2; let a27 := a26.2; let a28 := a27.2; let a29 := a28.2; let a30 := a29.2.2; let a31 := a30.2.2.2.2.2.2.2.2.2; (c151 ((a0.1, ()), ((a2.1, (a3.1, ())), ()))).bind fun r0 => bif r0.1.1 then ((c152 (a1.1, ())).bind fun r1 => bif r1.1.1 then ((c153 ((a4.1, (a5.1, (a6.1, (a7.1, (a8.1, (a9.1, (a10.1, (a11.1, ())))))))), ())).bind fun r2 => bif r2.1.1 then ((c154 ((a22.1, (a23.1, (a24.1, (a25.1, (a26.1, (a27.1, (a28.1, (a29.1, (a29.2.1, (a30.1, (a30.2.1, ()))))))))))), ())).bind fun r3 => bif r3.1.1 then ((c155 (a30.2.2, ())).bind fun r4 => let X0 : R69 := bif r4.1.1 then (some ((false, ()), ())) else some ((false, ()), ()); (c156 (a13.1, ())).bind fun r5 => bif r5.1.1 then ((c156 (a17.1, ())).bind fun r6 => bif r6.1.1 then ((c157 (a15, ())).bind fun r7 => bif r7.1.1 then ((c158 (a19.1, ((0 : Int), (a15, ())))).bind fun r8 => bif r8.1.1 then ((c158 (a20.1, ((0 : Int), (a15, ())))).bind fun r9 => bif r4.1.1 then (bif r9.1.1 then (bif (leI a22.1 a15) then (bif (leI a30.2.2.1 a15) then ((c159 ((a29.2.1, (a30.1, ())), (a15, ()))).bind fun r10 => bif r10.1.1 then ((c159 ((a31.1, (a31.2.1, ())), (a15, ()))).bind fun r11 => some (r11.1, ())) else some ((false, ()), ())) else some ((false, ()), ())) else some ((false, ()), ())) else some ((false, ()), ())) else some ((false, ()), ())) else X0) else X0) else X0) else X0) else (c156 (a13.1, ())).bind fun r4 => bif r4.1.1 then ((c156 (a17.1, ())).bind fun r5 => bif r5.1.1 then ((c157 (a15, ())).bind fun r6 => bif r6.1.1 then ((c158 (a19.1, ((0 : Int), (a15, ())))).bind fun r7 => bif r7.1.1 then ((c158 (a20.1, ((0 : Int), (a15, ())))).bind fun r8 => some ((false, ()), ())) else some ((false, ()), ())) else some ((false, ()), ())) else some ((false, ()), ())) else some ((false, ()), ())) else (c156 (a13.1, ())).bind fun r3 => bif r3.1.1 then ((c156 (a17.1, ())).bind fun r4 => bif r4.1.1 then ((c157 (a15, ())).bind fun r5 => bif r5.1.1 then ((c158 (a19.1, ((0 : Int), (a15, ())))).bind fun r6 => bif r6.1.1 then ((c158 (a20.1, ((0 : Int), (a15, ())))).bind fun r7 => some ((false, ()), ())) else some ((false, ()), ())) else some ((false, ()), ())) else some ((false, ()), ())) else some ((false, ()), ())) else (c156 (a13.1, ())).bind fun r2 => bif r2.1.1 then ((c156 (a17.1, ())).bind fun r3 => bif r3.1.1 then ((c157 (a15, ())).bind fun r4 => bif r4.1.1 then ((c158 (a19.1, ((0 : Int), (a15, ())))).bind fun r5 => bif r5.1.1 then ((c158 (a20.1, ((0 : Int), (a15, ())))).bind fun r6 => some ((false, ()), ())) else some ((false, ()), ())) else some ((false, ()), ())) else some ((false, ()), ())) else some ((false, ()), ())) else (c156 (a13.1, ())).bind fun r1 => bif r1.1.1 then ((c156 (a17.1, ())).bind fun r2 => bif r2.1.1 then ((c157 (a15, ())).bind fun r3 => bif r3.1.1 then ((c158 (a19.1, ((0 : Int), (a15, ())))).bind fun r4 => bif r4.1.1 then ((c158 (a20.1, ((0 : Int), (a15, ())))).bind fun r5 => some ((false, ()), ())) else some ((false, ()), ())) else some ((false, ()), ())) else some ((false, ()), ())) else some ((false, ()), ())
noncomputable def E69 (c153 : F153) (c151 : F151) (c152 : F152) (c154 : F154) (c155 : F155) (c156 : F156) (c157 : F157) (c159 : F159) (c158 : F158) := mkE [g153 c153, g151 c151, g152 c152, g154 c154, g155 c155, g156 c156, g157 c157, g159 c159, g158 c158]
theorem s69 (c153 : F153) (c151 : F151) (c152 : F152) (c154 : F154) (c155 : F155) (c156 : F156) (c157 : F157) (c159 : F159) (c158 : F158)  (y) : tevF (E69 c153 c151 c152 c154 c155 c156 c157 c159 c158 ) Tryz.f69 i69 o69 y = m69 c153 c151 c152 c154 c155 c156 c157 c159 c158  y := by kernel_rfl
noncomputable def r69 : F69 := m69 r153 r151 r152 r154 r155 r156 r157 r159 r158 
theorem k69 : CK Tryz.prog (g69 r69) := fn0 (s69 r153 r151 r152 r154 r155 r156 r157 r159 r158) (fnsL_ok ⟨k153, k151, k152, k154, k155, k156, k157, k159, k158, trivial⟩) rfl mixed (by kernel_rfl) (by kernel_rfl) (by kernel_rfl)
@[reducible] def i294 : List Ty := [.v (.int .i64)]
@[reducible] def o294 : List Ty := [.v (.int .i64)]
abbrev R294 := Option (PTup o294 × BTup i294)
abbrev F294 := PTup i294 → R294
abbrev g294 (c : F294) : Nat × Tev.Fn := (294, ⟨i294, o294, c, .nor⟩)
noncomputable def m294   (y : PTup i294) : Option (PTup o294 × BTup i294) :=
  some (((bAnd Go.IntKind.i64 y.1 (255 : Int)), ()), ())
noncomputable def E294  := mkE []
theorem s294   (y) : tevF (E294  ) Tryz.f294 i294 o294 y = m294   y := by kernel_rfl
noncomputable def r294 : F294 := m294  
theorem k294 : CK Tryz.prog (g294 r294) := fn0 (s294 ) (fnsL_ok trivial) rfl mixed (by kernel_rfl) (by kernel_rfl) (by kernel_rfl)
@[reducible] def i316 : List Ty := [.p q2]
@[reducible] def o316 : List Ty := []
abbrev R316 := Option (PTup o316 × BTup i316)
abbrev F316 := PTup i316 → R316
abbrev g316 (c : F316) : Nat × Tev.Fn := (316, ⟨i316, o316, c, .nor⟩)
noncomputable def m316   (y : PTup i316) : Option (PTup o316 × BTup i316) :=
  some ((), ((y.1.1, (y.1.2.1, (y.1.2.2.1, ((Int.tmod (wI (y.1.2.2.2.1 + (1 : Int))) (16 : Int)), y.1.2.2.2.2)))), ()))
noncomputable def E316  := mkE []
theorem s316   (y) : tevF (E316  ) Tryz.f316 i316 o316 y = m316   y := by kernel_rfl
noncomputable def r316 : F316 := m316  
theorem k316 : CK Tryz.prog (g316 r316) := fn0 (s316 ) (fnsL_ok trivial) rfl mixed (by kernel_rfl) (by kernel_rfl) (by kernel_rfl)
@[reducible] def i285 : List Ty := [.p [.int .i64, .int .i64, .int .i64, .int .i64, .int .i64, .bool, .sl true .i, .sl false .i], .v (.int .i64), .v (.int .i64)]
@[reducible] def o285 : List Ty := []
abbrev R285 := Option (PTup o285 × BTup i285)
abbrev F285 := PTup i285 → R285
abbrev g285 (c : F285) : Nat × Tev.Fn := (285, ⟨i285, o285, c, .nor⟩)
noncomputable def m285 (c316 : F316) (c294 : F294)  (y : PTup i285) : Option (PTup o285 × BTup i285) :=
  (c294 y.2.2).bind fun r0 =>
  bif (eqI y.2.1 (0 : Int)) then (some ((), ((y.1.1, (r0.1.1, y.1.2.2)), ())))
  else bif (eqI y.2.1 (1 : Int)) then (some ((), ((y.1.1, (y.1.2.1, (r0.1.1, y.1.2.2.2))), ())))
  else bif (eqI y.2.1 (3 : Int)) then (some ((), ((y.1.1, (y.1.2.1, (y.1.2.2.1, ((Int.tmod r0.1.1 (16 : Int)), y.1.2.2.2.2)))), ())))
  else bif (eqI y.2.1 (4 : Int)) then (bif (leI (0 : Int) y.1.2.2.2.1) then (bif (ltI y.1.2.2.2.1 (lenI y.1.2.2.2.2.2.2.1)) then ((c316 ((y.1.1, (y.1.2.1, (y.1.2.2.1, (y.1.2.2.2.1, (y.1.2.2.2.2.1, (y.1.2.2.2.2.2.1, ((List.set y.1.2.2.2.2.2.2.1 (Int.toNat y.1.2.2.2.1) (Int.tmod r0.1.1 (64 : Int))), y.1.2.2.2.2.2.2.2))))))), ())).bind fun r1 =>
     some ((), ((r1.2.1.1, (r1.2.1.2.1, (r1.2.1.2.2.1, (r1.2.1.2.2.2.1, (r1.2.1.2.2.2.2.1, (r1.2.1.2.2.2.2.2.1, ((List.set y.1.2.2.2.2.2.2.1 (Int.toNat y.1.2.2.2.1) (Int.tmod r0.1.1 (64 : Int))), y.1.2.2.2.2.2.2.2))))))), ())))
    else none)
   else none)
  else bif (eqI y.2.1 (5 : Int)) then (some ((), ((y.1.1, (y.1.2.1, (y.1.2.2.1, (y.1.2.2.2.1, ((Int.tmod r0.1.1 (64 : Int)), y.1.2.2.2.2.2))))), ())))
  else some ((), (y.1, ()))
noncomputable def E285 (c316 : F316) (c294 : F294) := mkE [g316 c316, g294 c294]
theorem s285 (c316 : F316) (c294 : F294)  (y) : tevF (E285 c316 c294 ) Tryz.f285 i285 o285 y = m285 c316 c294  y := by kernel_rfl
noncomputable def r285 : F285 := m285 r316 r294 
theorem k285 : CK Tryz.prog (g285 r285) := fn0 (s285 r316 r294) (fnsL_ok ⟨k316, k294, trivial⟩) rfl mixed (by kernel_rfl) (by kernel_rfl) (by kernel_rfl)
@[reducible] def i308 : List Ty := [.r q2, .v (.int .i64)]
@[reducible] def o308 : List Ty := [.v (.int .i64)]
abbrev R308 := Option (PTup o308 × BTup i308)
abbrev F308 := PTup i308 → R308
abbrev g308 (c : F308) : Nat × Tev.Fn := (308, ⟨i308, o308, c, .nor⟩)
noncomputable def m308   (y : PTup i308) : Option (PTup o308 × BTup i308) :=
  bif (leI (0 : Int) (Int.tmod (wI ((wI ((Int.tmod y.2.1 (8 : Int)) + y.1.2.2.1)) + (wI (Int.tdiv y.2.1 (8 : Int))))) (16 : Int))) then (bif (ltI (Int.tmod (wI ((wI ((Int.tmod y.2.1 (8 : Int)) + y.1.2.2.1)) + (wI (Int.tdiv y.2.1 (8 : Int))))) (16 : Int)) (lenI y.1.2.2.2.2.2.2.1)) then (some (((bXor Go.IntKind.i64 (rdE .i y.1.2.2.2.2.2.2.1 (Int.tmod (wI ((wI ((Int.tmod y.2.1 (8 : Int)) + y.1.2.2.1)) + (wI (Int.tdiv y.2.1 (8 : Int))))) (16 : Int))) y.1.2.2.2.2.1), ()), ()))
   else none)
  else none
noncomputable def E308  := mkE []
theorem s308   (y) : tevF (E308  ) Tryz.f308 i308 o308 y = m308   y := by kernel_rfl
noncomputable def r308 : F308 := m308  
theorem k308 : CK Tryz.prog (g308 r308) := fn0 (s308 ) (fnsL_ok trivial) rfl mixed (by kernel_rfl) (by kernel_rfl) (by kernel_rfl)
@[reducible] def i255 : List Ty := [.p [.int .i64, .int .i64, .int .i64, .int .i64, .int .i64, .bool, .sl false .i, .sl true .i]]
@[reducible] def o255 : List Ty := [.v (.bool), .v (.sl true .i), .v (.bool)]
abbrev R255 := Option (PTup o255 × BTup i255)
abbrev F255 := PTup i255 → R255
abbrev g255 (c : F255) : Nat × Tev.Fn := (255, ⟨i255, o255, c, .nor⟩)
noncomputable def m255 (c308 : F308)  (y : PTup i255) : Option (PTup o255 × BTup i255) :=
  bif (ltI (Int.tmod y.1.1 (64 : Int)) (48 : Int)) then ((c308 (((wI (y.1.1 + (1 : Int))), y.1.2), ((Int.tmod y.1.1 (64 : Int)), ()))).bind fun r0 =>
   bif (leN ((List.length y.1.2.2.2.2.2.2.2.1) + (List.length (r0.1.1 :: []))) (E.most .i)) then (some ((false, ([], (false, ()))), (((wI (y.1.1 + (1 : Int))), (y.1.2.1, (y.1.2.2.1, (y.1.2.2.2.1, (y.1.2.2.2.2.1, (y.1.2.2.2.2.2.1, (y.1.2.2.2.2.2.2.1, ((y.1.2.2.2.2.2.2.2.1 ++ (r0.1.1 :: [])), ())))))))), ())))
   else none)
  else bif (eqI (Int.tmod y.1.1 (64 : Int)) (48 : Int)) then (some ((true, (y.1.2.2.2.2.2.2.2.1, ((ltI (127 : Int) y.1.2.1), ()))), (((wI (y.1.1 + (1 : Int))), (y.1.2.1, (y.1.2.2.1, (y.1.2.2.2.1, (y.1.2.2.2.2.1, (true, (y.1.2.2.2.2.2.2.1, ([], ())))))))), ())))
  else bif (eqI (Int.tmod y.1.1 (64 : Int)) (63 : Int)) then (some ((false, ([], (false, ()))), (((wI (y.1.1 + (1 : Int))), (y.1.2.1, (y.1.2.2.1, (y.1.2.2.2.1, (y.1.2.2.2.2.1, (false, y.1.2.2.2.2.2.2)))))), ())))
  else some ((false, ([], (false, ()))), (((wI (y.1.1 + (1 : Int))), y.1.2), ()))
noncomputable def E255 (c308 : F308) := mkE [g308 c308]
theorem s255 (c308 : F308)  (y) : tevF (E255 c308 ) Tryz.f255 i255 o255 y = m255 c308  y := by kernel_rfl
noncomputable def r255 : F255 := m255 r308 
theorem k255 : CK Tryz.prog (g255 r255) := fn0 (s255 r308) (fnsL_ok ⟨k308, trivial⟩) rfl mixed (by kernel_rfl) (by kernel_rfl) (by kernel_rfl)
@[reducible] def i286 : List Ty := [.a q12, .v (.int .i64), .v (.int .i64)]
@[reducible] def o286 : List Ty := [.a q12]
abbrev R286 := Option (PTup o286 × BTup i286)
abbrev F286 := PTup i286 → R286
abbrev g286 (c : F286) : Nat × Tev.Fn := (286, ⟨i286, o286, c, .nor⟩)
noncomputable def m286 (c175 : F175) (c294 : F294)  (y : PTup i286) : Option (PTup o286 × BTup i286) :=
  (c175 (y.1, ())).bind fun r0 =>
  bif (!r0.1.1) then (some ((y.1, ()), ()))
  else (c294 y.2.2).bind fun r1 =>
  bif (eqI y.2.1 (0 : Int)) then (some (((y.1.1, (r1.1.1, y.1.2.2)), ()), ()))
  else bif (eqI y.2.1 (1 : Int)) then (some (((y.1.1, (y.1.2.1, (y.1.2.2.1, (y.1.2.2.2.1, ((Int.tmod r1.1.1 (32 : Int)), y.1.2.2.2.2.2))))), ()), ()))
  else bif (eqI y.2.1 (2 : Int)) then (bif y.1.2.2.2.2.2.2.1 then (some (((y.1.1, (y.1.2.1, (y.1.2.2.1, (y.1.2.2.2.1, (y.1.2.2.2.2.1, ((eqI (Int.tmod r1.1.1 (2 : Int)) (1 : Int)), ((eqI (Int.tmod r1.1.1 (2 : Int)) (1 : Int)), ()))))))), ()), ()))
   else some (((y.1.1, (y.1.2.1, (y.1.2.2.1, (y.1.2.2.2.1, (y.1.2.2.2.2.1, ((eqI (Int.tmod r1.1.1 (2 : Int)) (1 : Int)), (false, ()))))))), ()), ()))
  else bif (eqI y.2.1 (3 : Int)) then (some (((y.1.1, (y.1.2.1, (y.1.2.2.1, (y.1.2.2.2.1, (y.1.2.2.2.2.1, (y.1.2.2.2.2.2.1, (false, ()))))))), ()), ()))
  else some ((y.1, ()), ())
noncomputable def E286 (c175 : F175) (c294 : F294) := mkE [g175 c175, g294 c294]
theorem s286 (c175 : F175) (c294 : F294)  (y) : tevF (E286 c175 c294 ) Tryz.f286 i286 o286 y = m286 c175 c294  y := by kernel_rfl
noncomputable def r286 : F286 := m286 r175 r294 
theorem k286 : CK Tryz.prog (g286 r286) := fn0 (s286 r175 r294) (fnsL_ok ⟨k175, k294, trivial⟩) rfl mixed (by kernel_rfl) (by kernel_rfl) (by kernel_rfl)
@[reducible] def i256 : List Ty := [.p q12]
@[reducible] def o256 : List Ty := [.v (.int .i64), .v (.bool)]
abbrev R256 := Option (PTup o256 × BTup i256)
abbrev F256 := PTup i256 → R256
abbrev g256 (c : F256) : Nat × Tev.Fn := (256, ⟨i256, o256, c, .nor⟩)
noncomputable def m256   (y : PTup i256) : Option (PTup o256 × BTup i256) :=
  let a0 := y.1; let a1 := a0.1; let a2 := a0.2; let a3 := a2.1; let a4 := a2.2; let a5 := a4.1; let a6 := a4.2; let a7 := a6.1; let a8 := a6.2; let a9 := a8.1; let a10 := a8.2; let a11 := a10.1; let X0 : R256 := bif (! (eqI (Int.tmod a1 (16 : Int)) (15 : Int))) then (some (((0 : Int), ((eqI (Int.tmod a1 (16 : Int)) (15 : Int)), ())), (((wI (a1 + (1 : Int))), (a3, (a3, ((wI ((1 : Int) - a7)), a8)))), ()))) else bif (eqI a9 (0 : Int)) then (some (((0 : Int), ((eqI (Int.tmod a1 (16 : Int)) (15 : Int)), ())), (((wI (a1 + (1 : Int))), (a3, (a3, ((wI ((1 : Int) - a7)), a8)))), ()))) else some (((wI ((8 : Int) * (wI ((1 : Int) - a7)))), (true, ())), (((wI (a1 + (1 : Int))), (a3, (a3, ((wI ((1 : Int) - a7)), a8)))), ())); let X1 : R256 := bif (! (eqI (Int.tmod a1 (16 : Int)) (15 : Int))) then (some (((0 : Int), ((eqI (Int.tmod a1 (16 : Int)) (15 : Int)), ())), (((wI (a1 + (1 : Int))), (a3, ((wI (a5 - (1 : Int))), a6))), ()))) else bif (eqI a9 (0 : Int)) then (some (((0 : Int), ((eqI (Int.tmod a1 (16 : Int)) (15 : Int)), ())), (((wI (a1 + (1 : Int))), (a3, ((wI (a5 - (1 : Int))), a6))), ()))) else some (((wI ((8 : Int) * a7)), (true, ())), (((wI (a1 + (1 : Int))), (a3, ((wI (a5 - (1 : Int))), a6))), ())); let X2 : R256 := bif (! (eqI (Int.tmod a1 (16 : Int)) (15 : Int))) then (some (((0 : Int), ((eqI (Int.tmod a1 (16 : Int)) (15 : Int)), ())), (((wI (a1 + (1 : Int))), (a3, (a3, a6))), ()))) else bif (eqI a9 (0 : Int)) then (some (((0 : Int), ((eqI (Int.tmod a1 (16 : Int)) (15 : Int)), ())), (((wI (a1 + (1 : Int))), (a3, (a3, a6))), ()))) else some (((wI ((8 : Int) * a7)), (true, ())), (((wI (a1 + (1 : Int))), (a3, (a3, a6))), ())); let X3 : R256 := some (((0 : Int), ((eqI (Int.tmod a1 (16 : Int)) (15 : Int)), ())), (((wI (a1 + (1 : Int))), (a3, ((wI (a5 - (1 : Int))), (a7, ((wI (a9 - (1 : Int))), (a11, (a11, ()))))))), ())); let X4 : R256 := some (((0 : Int), ((eqI (Int.tmod a1 (16 : Int)) (15 : Int)), ())), (((wI (a1 + (1 : Int))), (a3, (a3, ((wI ((1 : Int) - a7)), ((wI (a9 - (1 : Int))), (a11, (a11, ()))))))), ())); let X5 : R256 := some (((0 : Int), ((eqI (Int.tmod a1 (16 : Int)) (15 : Int)), ())), (((wI (a1 + (1 : Int))), (a3, ((wI (a5 - (1 : Int))), (a7, ((wI (a9 - (1 : Int))), (a11, (false, ()))))))), ())); let X6 : R256 := some (((0 : Int), ((eqI (Int.tmod a1 (16 : Int)) (15 : Int)), ())), (((wI (a1 + (1 : Int))), (a3, ((wI (a5 - (1 : Int))), (a7, ((wI (a9 - (1 : Int))), (a11, (true, ()))))))), ())); let X7 : R256 := some (((0 : Int), ((eqI (Int.tmod a1 (16 : Int)) (15 : Int)), ())), (((wI (a1 + (1 : Int))), (a3, (a3, ((wI ((1 : Int) - a7)), ((wI (a9 - (1 : Int))), (a11, (false, ()))))))), ())); let X8 : R256 := some (((0 : Int), ((eqI (Int.tmod a1 (16 : Int)) (15 : Int)), ())), (((wI (a1 + (1 : Int))), (a3, (a3, ((wI ((1 : Int) - a7)), ((wI (a9 - (1 : Int))), (a11, (true, ()))))))), ())); let X9 : R256 := some (((0 : Int), ((eqI (Int.tmod a1 (16 : Int)) (15 : Int)), ())), (((wI (a1 + (1 : Int))), (a3, (a3, (a7, ((wI (a9 - (1 : Int))), (a11, (a11, ()))))))), ())); let X10 : R256 := some (((0 : Int), ((eqI (Int.tmod a1 (16 : Int)) (15 : Int)), ())), (((wI (a1 + (1 : Int))), (a3, (a3, (a7, ((wI (a9 - (1 : Int))), (a11, (false, ()))))))), ())); let X11 : R256 := some (((0 : Int), ((eqI (Int.tmod a1 (16 : Int)) (15 : Int)), ())), (((wI (a1 + (1 : Int))), (a3, (a3, (a7, ((wI (a9 - (1 : Int))), (a11, (true, ()))))))), ())); bif (eqI a5 (0 : Int)) then (bif (ltI (0 : Int) a9) then (bif (eqI (Int.tmod a1 (32 : Int)) (0 : Int)) then (bif (ltI (0 : Int) a9) then (bif a10.2.1 then (bif (! (eqI (Int.tmod a1 (16 : Int)) (15 : Int))) then X8 else bif (eqI (wI (a9 - (1 : Int))) (0 : Int)) then X8 else some (((wI ((8 : Int) * (wI ((1 : Int) - a7)))), (true, ())), (((wI (a1 + (1 : Int))), (a3, (a3, ((wI ((1 : Int) - a7)), ((wI (a9 - (1 : Int))), (a11, (true, ()))))))), ()))) else bif (eqI (wI (a9 - (1 : Int))) (0 : Int)) then (bif (! (eqI (Int.tmod a1 (16 : Int)) (15 : Int))) then X4 else bif (eqI (wI (a9 - (1 : Int))) (0 : Int)) then X4 else some (((wI ((8 : Int) * (wI ((1 : Int) - a7)))), (true, ())), (((wI (a1 + (1 : Int))), (a3, (a3, ((wI ((1 : Int) - a7)), ((wI (a9 - (1 : Int))), (a11, (a11, ()))))))), ()))) else bif (! (eqI (Int.tmod a1 (16 : Int)) (15 : Int))) then X7 else bif (eqI (wI (a9 - (1 : Int))) (0 : Int)) then X7 else some (((wI ((8 : Int) * (wI ((1 : Int) - a7)))), (true, ())), (((wI (a1 + (1 : Int))), (a3, (a3, ((wI ((1 : Int) - a7)), ((wI (a9 - (1 : Int))), (a11, (false, ()))))))), ()))) else X0) else X0) else bif (eqI (Int.tmod a1 (32 : Int)) (0 : Int)) then (bif (ltI (0 : Int) a9) then (bif a10.2.1 then (bif (! (eqI (Int.tmod a1 (16 : Int)) (15 : Int))) then X11 else bif (eqI (wI (a9 - (1 : Int))) (0 : Int)) then X11 else some (((wI ((8 : Int) * a7)), (true, ())), (((wI (a1 + (1 : Int))), (a3, (a3, (a7, ((wI (a9 - (1 : Int))), (a11, (true, ()))))))), ()))) else bif (eqI (wI (a9 - (1 : Int))) (0 : Int)) then (bif (! (eqI (Int.tmod a1 (16 : Int)) (15 : Int))) then X9 else bif (eqI (wI (a9 - (1 : Int))) (0 : Int)) then X9 else some (((wI ((8 : Int) * a7)), (true, ())), (((wI (a1 + (1 : Int))), (a3, (a3, (a7, ((wI (a9 - (1 : Int))), (a11, (a11, ()))))))), ()))) else bif (! (eqI (Int.tmod a1 (16 : Int)) (15 : Int))) then X10 else bif (eqI (wI (a9 - (1 : Int))) (0 : Int)) then X10 else some (((wI ((8 : Int) * a7)), (true, ())), (((wI (a1 + (1 : Int))), (a3, (a3, (a7, ((wI (a9 - (1 : Int))), (a11, (false, ()))))))), ()))) else X2) else X2) else bif (eqI (Int.tmod a1 (32 : Int)) (0 : Int)) then (bif (ltI (0 : Int) a9) then (bif a10.2.1 then (bif (! (eqI (Int.tmod a1 (16 : Int)) (15 : Int))) then X6 else bif (eqI (wI (a9 - (1 : Int))) (0 : Int)) then X6 else some (((wI ((8 : Int) * a7)), (true, ())), (((wI (a1 + (1 : Int))), (a3, ((wI (a5 - (1 : Int))), (a7, ((wI (a9 - (1 : Int))), (a11, (true, ()))))))), ()))) else bif (eqI (wI (a9 - (1 : Int))) (0 : Int)) then (bif (! (eqI (Int.tmod a1 (16 : Int)) (15 : Int))) then X3 else bif (eqI (wI (a9 - (1 : Int))) (0 : Int)) then X3 else some (((wI ((8 : Int) * a7)), (true, ())), (((wI (a1 + (1 : Int))), (a3, ((wI (a5 - (1 : Int))), (a7, ((wI (a9 - (1 : Int))), (a11, (a11, ()))))))), ()))) else bif (! (eqI (Int.tmod a1 (16 : Int)) (15 : Int))) then X5 else bif (eqI (wI (a9 - (1 : Int))) (0 : Int)) then X5 else some (((wI ((8 : Int) * a7)), (true, ())), (((wI (a1 + (1 : Int))), (a3, ((wI (a5 - (1 : Int))), (a7, ((wI (a9 - (1 : Int))), (a11, (false, ()))))))), ()))) else X1) else X1
noncomputable def E256  := mkE []
theorem s256   (y) : tevF (E256  ) Tryz.f256 i256 o256 y = m256   y := by kernel_rfl
noncomputable def r256 : F256 := m256  
theorem k256 : CK Tryz.prog (g256 r256) := fn0 (s256 ) (fnsL_ok trivial) rfl mixed (by kernel_rfl) (by kernel_rfl) (by kernel_rfl)
@[reducible] def i35 : List Ty := [.v (.sl false .i), .v (.sl false .i)]
@[reducible] def o35 : List Ty := [.v (.bool)]
abbrev R35 := Option (PTup o35 × BTup i35)
abbrev F35 := PTup i35 → R35
abbrev g35 (c : F35) : Nat × Tev.Fn := (35, ⟨i35, o35, c, .nor⟩)
@[reducible] def lc35_0 : List Ty := [.v (.sl false .i), .v (.sl false .i)]
@[reducible] def lb35_0 : List Ty := []
@[reducible] def lv35_0 : List Ty := [.v (.int .i64)]
@[reducible] def lr35_0 : List Ty := [.v (.bool)]
abbrev R35_0 := Option (Sum (PTup lv35_0) (PTup lr35_0) × BTup lb35_0)
abbrev B35_0 := PTup lb35_0 → PTup lv35_0 → R35_0
abbrev A35_0 := PTup lc35_0 → B35_0
noncomputable def w35_0   (again : B35_0) (x : PTup lc35_0) (y : PTup lb35_0) (z : PTup lv35_0) : R35_0 :=
  bif (ltI z.1 (lenI x.1)) then (bif (leI (0 : Int) z.1) then (bif (ltI z.1 (lenI x.1)) then (bif (leI (0 : Int) z.1) then (bif (ltI z.1 (lenI x.2.1)) then (bif (neI (rdE .i x.1 z.1) (rdE .i x.2.1 z.1)) then (some ((Sum.inr (false, ())), ()))
       else again () ((wI (z.1 + (1 : Int))), ()))
      else none)
     else none)
    else none)
   else none)
  else some ((Sum.inl z), ())
noncomputable def e35_0 (l : A35_0) : LoopE := ⟨[0, 1], lc35_0, [], lb35_0, [5], lv35_0, [4], lr35_0, 0, [], l⟩
noncomputable def m35  (l0 : A35_0) (y : PTup i35) : Option (PTup o35 × BTup i35) :=
  bif (neI (lenI y.1) (lenI y.2.1)) then (some ((false, ()), ()))
  else (l0 y () ((0 : Int), ())).bind fun r0 =>
  sumElim r0.1 (fun r1 => some ((true, ()), ()))
  (fun r1 => some (r1, ()))
noncomputable def E35  (l0 : A35_0) : CEnv := ⟨⟨Tryz.prog, fnsL []⟩, loopsL [(4, e35_0 l0)]⟩
theorem t35_0  (l0 : A35_0) (again) (x y z) : loopRound (E35  l0) (loopAt (bodyOf Tryz.f35) 0) (e35_0 l0) Tryz.f35.ntmps again x y z = w35_0   again x y z := by kernel_rfl
noncomputable def n35_0   : Nat → A35_0
  | 0, _, _, _ => none
  | n + 1, x, y, z => w35_0   (fun y z => n35_0   n x y z) x y z
theorem s35  (l0 : A35_0) (y) : tevF (E35  l0) Tryz.f35 i35 o35 y = m35  l0 y := by kernel_rfl
noncomputable def L35_0 : A35_0 := n35_0   fuel
noncomputable def r35 : F35 := m35  L35_0
theorem k35 : CK Tryz.prog (g35 r35) := by
  have hE : ∀ g f, (E35  L35_0).env.fns g = some f → CallOk Tryz.prog g f := fnsL_ok trivial
  have h0 : LoopOk Tryz.prog Tryz.f35.ntmps (loopAt (bodyOf Tryz.f35) 0) (e35_0 L35_0) := lp_ok (E := E35  L35_0) rfl hE mixed (AllLoops.of_list (l := []) (by kernel_rfl) trivial) (n35_0  ) (fun _ _ _ => rfl) (fun n x y z => t35_0  L35_0 _ x y z) rfl
  exact fn_ok (E := E35  L35_0) rfl hE mixed (by kernel_rfl) (by kernel_rfl) (AllLoops.of_list (l := [(loopAt (bodyOf Tryz.f35) 0)]) (by kernel_rfl) (.one (by kernel_rfl) h0 trivial)) (s35  L35_0)
@[reducible] def i162 : List Ty := [.v (.sl false .n), .v (.sl false .n)]
@[reducible] def o162 : List Ty := [.v (.bool)]
abbrev R162 := Option (PTup o162 × BTup i162)
abbrev F162 := PTup i162 → R162
abbrev g162 (c : F162) : Nat × Tev.Fn := (162, ⟨i162, o162, c, .nor⟩)
@[reducible] def lc162_0 : List Ty := [.v (.sl false .n), .v (.sl false .n)]
@[reducible] def lb162_0 : List Ty := []
@[reducible] def lv162_0 : List Ty := [.v (.int .i64)]
@[reducible] def lr162_0 : List Ty := [.v (.bool)]
abbrev R162_0 := Option (Sum (PTup lv162_0) (PTup lr162_0) × BTup lb162_0)
abbrev B162_0 := PTup lb162_0 → PTup lv162_0 → R162_0
abbrev A162_0 := PTup lc162_0 → B162_0
noncomputable def w162_0 (c35 : F35)  (again : B162_0) (x : PTup lc162_0) (y : PTup lb162_0) (z : PTup lv162_0) : R162_0 :=
  bif (ltI z.1 (lenI x.1)) then (bif (leI (0 : Int) z.1) then (bif (ltI z.1 (lenI x.1)) then (bif (leI (0 : Int) z.1) then (bif (ltI z.1 (lenI x.2.1)) then ((c35 ((rdE .n x.1 z.1), ((rdE .n x.2.1 z.1), ()))).bind fun r0 =>
       bif (!r0.1.1) then (some ((Sum.inr (false, ())), ()))
       else again () ((wI (z.1 + (1 : Int))), ()))
      else none)
     else none)
    else none)
   else none)
  else some ((Sum.inl z), ())
noncomputable def e162_0 (l : A162_0) : LoopE := ⟨[0, 1], lc162_0, [], lb162_0, [5], lv162_0, [4], lr162_0, 0, [], l⟩
noncomputable def m162 (c35 : F35) (l0 : A162_0) (y : PTup i162) : Option (PTup o162 × BTup i162) :=
  bif (neI (lenI y.1) (lenI y.2.1)) then (some ((false, ()), ()))
  else (l0 y () ((0 : Int), ())).bind fun r0 =>
  sumElim r0.1 (fun r1 => some ((true, ()), ()))
  (fun r1 => some (r1, ()))
noncomputable def E162 (c35 : F35) (l0 : A162_0) : CEnv := ⟨⟨Tryz.prog, fnsL [g35 c35]⟩, loopsL [(4, e162_0 l0)]⟩
theorem t162_0 (c35 : F35) (l0 : A162_0) (again) (x y z) : loopRound (E162 c35 l0) (loopAt (bodyOf Tryz.f162) 0) (e162_0 l0) Tryz.f162.ntmps again x y z = w162_0 c35  again x y z := by kernel_rfl
noncomputable def n162_0 (c35 : F35)  : Nat → A162_0
  | 0, _, _, _ => none
  | n + 1, x, y, z => w162_0 c35  (fun y z => n162_0 c35  n x y z) x y z
theorem s162 (c35 : F35) (l0 : A162_0) (y) : tevF (E162 c35 l0) Tryz.f162 i162 o162 y = m162 c35 l0 y := by kernel_rfl
noncomputable def L162_0 : A162_0 := n162_0 r35  fuel
noncomputable def r162 : F162 := m162 r35 L162_0
theorem k162 : CK Tryz.prog (g162 r162) := by
  have hE : ∀ g f, (E162 r35 L162_0).env.fns g = some f → CallOk Tryz.prog g f := fnsL_ok ⟨k35, trivial⟩
  have h0 : LoopOk Tryz.prog Tryz.f162.ntmps (loopAt (bodyOf Tryz.f162) 0) (e162_0 L162_0) := lp_ok (E := E162 r35 L162_0) rfl hE mixed (AllLoops.of_list (l := []) (by kernel_rfl) trivial) (n162_0 r35 ) (fun _ _ _ => rfl) (fun n x y z => t162_0 r35 L162_0 _ x y z) rfl
  exact fn_ok (E := E162 r35 L162_0) rfl hE mixed (by kernel_rfl) (by kernel_rfl) (AllLoops.of_list (l := [(loopAt (bodyOf Tryz.f162) 0)]) (by kernel_rfl) (.one (by kernel_rfl) h0 trivial)) (s162 r35 L162_0)
@[reducible] def i71 : List Ty := [.a q0, .a q0]
@[reducible] def o71 : List Ty := [.v (.bool)]
abbrev R71 := Option (PTup o71 × BTup i71)
abbrev F71 := PTup i71 → R71
abbrev g71 (c : F71) : Nat × Tev.Fn := (71, ⟨i71, o71, c, .nor⟩)
noncomputable def m71 (c162 : F162)  (y : PTup i71) : Option (PTup o71 × BTup i71) :=
  (c162 (y.1.1, y.2.1)).bind fun r0 =>
  bif (!r0.1.1) then (some ((false, ()), ()))
  else some ((true, ()), ())
noncomputable def E71 (c162 : F162) := mkE [g162 c162]
theorem s71 (c162 : F162)  (y) : tevF (E71 c162 ) Tryz.f71 i71 o71 y = m71 c162  y := by kernel_rfl
noncomputable def r71 : F71 := m71 r162 
theorem k71 : CK Tryz.prog (g71 r71) := fn0 (s71 r162) (fnsL_ok ⟨k162, trivial⟩) rfl mixed (by kernel_rfl) (by kernel_rfl) (by kernel_rfl)
@[reducible] def i72 : List Ty := [.a q1, .a q1]
@[reducible] def o72 : List Ty := [.v (.bool)]
abbrev R72 := Option (PTup o72 × BTup i72)
abbrev F72 := PTup i72 → R72
abbrev g72 (c : F72) : Nat × Tev.Fn := (72, ⟨i72, o72, c, .nor⟩)
noncomputable def m72 (c35 : F35)  (y : PTup i72) : Option (PTup o72 × BTup i72) :=
  (c35 (y.1.1, (y.2.1.1, ()))).bind fun r0 =>
  bif (!r0.1.1) then (some ((false, ()), ()))
  else bif (neI y.1.2.1 y.2.1.2.1) then (some ((false, ()), ()))
  else some ((true, ()), ())
noncomputable def E72 (c35 : F35) := mkE [g35 c35]
theorem s72 (c35 : F35)  (y) : tevF (E72 c35 ) Tryz.f72 i72 o72 y = m72 c35  y := by kernel_rfl
noncomputable def r72 : F72 := m72 r35 
theorem k72 : CK Tryz.prog (g72 r72) := fn0 (s72 r35) (fnsL_ok ⟨k35, trivial⟩) rfl mixed (by kernel_rfl) (by kernel_rfl) (by kernel_rfl)
@[reducible] def i73 : List Ty := [.a q8, .a q8]
@[reducible] def o73 : List Ty := [.v (.bool)]
abbrev R73 := Option (PTup o73 × BTup i73)
abbrev F73 := PTup i73 → R73
abbrev g73 (c : F73) : Nat × Tev.Fn := (73, ⟨i73, o73, c, .nor⟩)
noncomputable def m73   (y : PTup i73) : Option (PTup o73 × BTup i73) :=
  bif (neI y.1.1 y.2.1.1) then (some ((false, ()), ()))
  else bif (neI y.1.2.1 y.2.1.2.1) then (some ((false, ()), ()))
  else bif (neI y.1.2.2.1 y.2.1.2.2.1) then (some ((false, ()), ()))
  else bif (neI y.1.2.2.2.1 y.2.1.2.2.2.1) then (some ((false, ()), ()))
  else bif (!(y.1.2.2.2.2.1 == y.2.1.2.2.2.2.1)) then (some ((false, ()), ()))
  else bif (!(y.1.2.2.2.2.2.1 == y.2.1.2.2.2.2.2.1)) then (some ((false, ()), ()))
  else bif (!(y.1.2.2.2.2.2.2.1 == y.2.1.2.2.2.2.2.2.1)) then (some ((false, ()), ()))
  else bif (!(y.1.2.2.2.2.2.2.2.1 == y.2.1.2.2.2.2.2.2.2.1)) then (some ((false, ()), ()))
  else some ((true, ()), ())
noncomputable def E73  := mkE []
theorem s73   (y) : tevF (E73  ) Tryz.f73 i73 o73 y = m73   y := by kernel_rfl
noncomputable def r73 : F73 := m73  
theorem k73 : CK Tryz.prog (g73 r73) := fn0 (s73 ) (fnsL_ok trivial) rfl mixed (by kernel_rfl) (by kernel_rfl) (by kernel_rfl)
@[reducible] def i74 : List Ty := [.a q9, .a q9]
@[reducible] def o74 : List Ty := [.v (.bool)]
abbrev R74 := Option (PTup o74 × BTup i74)
abbrev F74 := PTup i74 → R74
abbrev g74 (c : F74) : Nat × Tev.Fn := (74, ⟨i74, o74, c, .nor⟩)
noncomputable def m74   (y : PTup i74) : Option (PTup o74 × BTup i74) :=
  bif (!(y.1.1 == y.2.1.1)) then (some ((false, ()), ()))
  else bif (neI y.1.2.1 y.2.1.2.1) then (some ((false, ()), ()))
  else some ((true, ()), ())
noncomputable def E74  := mkE []
theorem s74   (y) : tevF (E74  ) Tryz.f74 i74 o74 y = m74   y := by kernel_rfl
noncomputable def r74 : F74 := m74  
theorem k74 : CK Tryz.prog (g74 r74) := fn0 (s74 ) (fnsL_ok trivial) rfl mixed (by kernel_rfl) (by kernel_rfl) (by kernel_rfl)
@[reducible] def i97 : List Ty := [.a q2, .a q2]
@[reducible] def o97 : List Ty := [.v (.bool)]
abbrev R97 := Option (PTup o97 × BTup i97)
abbrev F97 := PTup i97 → R97
abbrev g97 (c : F97) : Nat × Tev.Fn := (97, ⟨i97, o97, c, .nor⟩)
noncomputable def m97 (c35 : F35)  (y : PTup i97) : Option (PTup o97 × BTup i97) :=
  bif (neI y.1.1 y.2.1.1) then (some ((false, ()), ()))
  else bif (neI y.1.2.1 y.2.1.2.1) then (some ((false, ()), ()))
  else bif (neI y.1.2.2.1 y.2.1.2.2.1) then (some ((false, ()), ()))
  else bif (neI y.1.2.2.2.1 y.2.1.2.2.2.1) then (some ((false, ()), ()))
  else bif (neI y.1.2.2.2.2.1 y.2.1.2.2.2.2.1) then (some ((false, ()), ()))
  else bif (!(y.1.2.2.2.2.2.1 == y.2.1.2.2.2.2.2.1)) then (some ((false, ()), ()))
  else (c35 (y.1.2.2.2.2.2.2.1, (y.2.1.2.2.2.2.2.2.1, ()))).bind fun r0 =>
  bif (!r0.1.1) then (some ((false, ()), ()))
  else (c35 (y.1.2.2.2.2.2.2.2.1, y.2.1.2.2.2.2.2.2.2)).bind fun r1 =>
  bif (!r1.1.1) then (some ((false, ()), ()))
  else some ((true, ()), ())
noncomputable def E97 (c35 : F35) := mkE [g35 c35]
theorem s97 (c35 : F35)  (y) : tevF (E97 c35 ) Tryz.f97 i97 o97 y = m97 c35  y := by kernel_rfl
noncomputable def r97 : F97 := m97 r35 
theorem k97 : CK Tryz.prog (g97 r97) := fn0 (s97 r35) (fnsL_ok ⟨k35, trivial⟩) rfl mixed (by kernel_rfl) (by kernel_rfl) (by kernel_rfl)
@[reducible] def i291 : List Ty := [.a q11, .a q11]
@[reducible] def o291 : List Ty := [.v (.bool)]
abbrev R291 := Option (PTup o291 × BTup i291)
abbrev F291 := PTup i291 → R291
abbrev g291 (c : F291) : Nat × Tev.Fn := (291, ⟨i291, o291, c, .nor⟩)
noncomputable def m291   (y : PTup i291) : Option (PTup o291 × BTup i291) :=
  bif (neI y.1.1 y.2.1.1) then (some ((false, ()), ()))
  else bif (neI y.1.2.1 y.2.1.2.1) then (some ((false, ()), ()))
  else bif (neI y.1.2.2.1 y.2.1.2.2.1) then (some ((false, ()), ()))
  else some ((true, ()), ())
noncomputable def E291  := mkE []
theorem s291   (y) : tevF (E291  ) Tryz.f291 i291 o291 y = m291   y := by kernel_rfl
noncomputable def r291 : F291 := m291  
theorem k291 : CK Tryz.prog (g291 r291) := fn0 (s291 ) (fnsL_ok trivial) rfl mixed (by kernel_rfl) (by kernel_rfl) (by kernel_rfl)
@[reducible] def i238 : List Ty := [.v (.sl false .t), .v (.sl false .t)]
@[reducible] def o238 : List Ty := [.v (.bool)]
abbrev R238 := Option (PTup o238 × BTup i238)
abbrev F238 := PTup i238 → R238
abbrev g238 (c : F238) : Nat × Tev.Fn := (238, ⟨i238, o238, c, .nor⟩)
@[reducible] def lc238_0 : List Ty := [.v (.sl false .t), .v (.sl false .t)]
@[reducible] def lb238_0 : List Ty := []
@[reducible] def lv238_0 : List Ty := [.v (.int .i64)]
@[reducible] def lr238_0 : List Ty := [.v (.bool)]
abbrev R238_0 := Option (Sum (PTup lv238_0) (PTup lr238_0) × BTup lb238_0)
abbrev B238_0 := PTup lb238_0 → PTup lv238_0 → R238_0
abbrev A238_0 := PTup lc238_0 → B238_0
noncomputable def w238_0 (c291 : F291)  (again : B238_0) (x : PTup lc238_0) (y : PTup lb238_0) (z : PTup lv238_0) : R238_0 :=
  bif (ltI z.1 (lenI x.1)) then (bif (leI (0 : Int) z.1) then (bif (ltI z.1 (lenI x.1)) then (bif (leI (0 : Int) z.1) then (bif (ltI z.1 (lenI x.2.1)) then ((c291 (((rdE .t x.1 z.1).1, ((rdE .t x.1 z.1).2.1, ((rdE .t x.1 z.1).2.2, ()))), (((rdE .t x.2.1 z.1).1, ((rdE .t x.2.1 z.1).2.1, ((rdE .t x.2.1 z.1).2.2, ()))), ()))).bind fun r0 =>
       bif (!r0.1.1) then (some ((Sum.inr (false, ())), ()))
       else again () ((wI (z.1 + (1 : Int))), ()))
      else none)
     else none)
    else none)
   else none)
  else some ((Sum.inl z), ())
noncomputable def e238_0 (l : A238_0) : LoopE := ⟨[0, 1], lc238_0, [], lb238_0, [5], lv238_0, [4], lr238_0, 0, [], l⟩
noncomputable def m238 (c291 : F291) (l0 : A238_0) (y : PTup i238) : Option (PTup o238 × BTup i238) :=
  bif (neI (lenI y.1) (lenI y.2.1)) then (some ((false, ()), ()))
  else (l0 y () ((0 : Int), ())).bind fun r0 =>
  sumElim r0.1 (fun r1 => some ((true, ()), ()))
  (fun r1 => some (r1, ()))
noncomputable def E238 (c291 : F291) (l0 : A238_0) : CEnv := ⟨⟨Tryz.prog, fnsL [g291 c291]⟩, loopsL [(4, e238_0 l0)]⟩
theorem t238_0 (c291 : F291) (l0 : A238_0) (again) (x y z) : loopRound (E238 c291 l0) (loopAt (bodyOf Tryz.f238) 0) (e238_0 l0) Tryz.f238.ntmps again x y z = w238_0 c291  again x y z := by kernel_rfl
noncomputable def n238_0 (c291 : F291)  : Nat → A238_0
  | 0, _, _, _ => none
  | n + 1, x, y, z => w238_0 c291  (fun y z => n238_0 c291  n x y z) x y z
theorem s238 (c291 : F291) (l0 : A238_0) (y) : tevF (E238 c291 l0) Tryz.f238 i238 o238 y = m238 c291 l0 y := by kernel_rfl
noncomputable def L238_0 : A238_0 := n238_0 r291  fuel
noncomputable def r238 : F238 := m238 r291 L238_0
theorem k238 : CK Tryz.prog (g238 r238) := by
  have hE : ∀ g f, (E238 r291 L238_0).env.fns g = some f → CallOk Tryz.prog g f := fnsL_ok ⟨k291, trivial⟩
  have h0 : LoopOk Tryz.prog Tryz.f238.ntmps (loopAt (bodyOf Tryz.f238) 0) (e238_0 L238_0) := lp_ok (E := E238 r291 L238_0) rfl hE mixed (AllLoops.of_list (l := []) (by kernel_rfl) trivial) (n238_0 r291 ) (fun _ _ _ => rfl) (fun n x y z => t238_0 r291 L238_0 _ x y z) rfl
  exact fn_ok (E := E238 r291 L238_0) rfl hE mixed (by kernel_rfl) (by kernel_rfl) (AllLoops.of_list (l := [(loopAt (bodyOf Tryz.f238) 0)]) (by kernel_rfl) (.one (by kernel_rfl) h0 trivial)) (s238 r291 L238_0)
@[reducible] def i163 : List Ty := [.a q3, .a q3]
@[reducible] def o163 : List Ty := [.v (.bool)]
abbrev R163 := Option (PTup o163 × BTup i163)
abbrev F163 := PTup i163 → R163
abbrev g163 (c : F163) : Nat × Tev.Fn := (163, ⟨i163, o163, c, .nor⟩)
noncomputable def m163 (c238 : F238)  (y : PTup i163) : Option (PTup o163 × BTup i163) :=
  bif (neI y.1.1 y.2.1.1) then (some ((false, ()), ()))
  else (c238 (y.1.2.1, y.2.1.2)).bind fun r0 =>
  bif (!r0.1.1) then (some ((false, ()), ()))
  else some ((true, ()), ())
noncomputable def E163 (c238 : F238) := mkE [g238 c238]
theorem s163 (c238 : F238)  (y) : tevF (E163 c238 ) Tryz.f163 i163 o163 y = m163 c238  y := by kernel_rfl
noncomputable def r163 : F163 := m163 r238 
theorem k163 : CK Tryz.prog (g163 r163) := fn0 (s163 r238) (fnsL_ok ⟨k238, trivial⟩) rfl mixed (by kernel_rfl) (by kernel_rfl) (by kernel_rfl)
@[reducible] def i75 : List Ty := [.a q4, .a q4]
@[reducible] def o75 : List Ty := [.v (.bool)]
abbrev R75 := Option (PTup o75 × BTup i75)
abbrev F75 := PTup i75 → R75
abbrev g75 (c : F75) : Nat × Tev.Fn := (75, ⟨i75, o75, c, .nor⟩)
noncomputable def m75 (c162 : F162) (c97 : F97) (c163 : F163)  (y : PTup i75) : Option (PTup o75 × BTup i75) :=
  (c97 ((y.1.1, (y.1.2.1, (y.1.2.2.1, (y.1.2.2.2.1, (y.1.2.2.2.2.1, (y.1.2.2.2.2.2.1, (y.1.2.2.2.2.2.2.1, (y.1.2.2.2.2.2.2.2.1, ())))))))), ((y.2.1.1, (y.2.1.2.1, (y.2.1.2.2.1, (y.2.1.2.2.2.1, (y.2.1.2.2.2.2.1, (y.2.1.2.2.2.2.2.1, (y.2.1.2.2.2.2.2.2.1, (y.2.1.2.2.2.2.2.2.2.1, ())))))))), ()))).bind fun r0 =>
  bif (!r0.1.1) then (some ((false, ()), ()))
  else (c163 ((y.1.2.2.2.2.2.2.2.2.1, (y.1.2.2.2.2.2.2.2.2.2.1, ())), ((y.2.1.2.2.2.2.2.2.2.2.1, (y.2.1.2.2.2.2.2.2.2.2.2.1, ())), ()))).bind fun r1 =>
  bif (!r1.1.1) then (some ((false, ()), ()))
  else (c162 (y.1.2.2.2.2.2.2.2.2.2.2.1, y.2.1.2.2.2.2.2.2.2.2.2.2)).bind fun r2 =>
  bif (!r2.1.1) then (some ((false, ()), ()))
  else some ((true, ()), ())
noncomputable def E75 (c162 : F162) (c97 : F97) (c163 : F163) := mkE [g162 c162, g97 c97, g163 c163]
theorem s75 (c162 : F162) (c97 : F97) (c163 : F163)  (y) : tevF (E75 c162 c97 c163 ) Tryz.f75 i75 o75 y = m75 c162 c97 c163  y := by kernel_rfl
noncomputable def r75 : F75 := m75 r162 r97 r163 
theorem k75 : CK Tryz.prog (g75 r75) := fn0 (s75 r162 r97 r163) (fnsL_ok ⟨k162, k97, k163, trivial⟩) rfl mixed (by kernel_rfl) (by kernel_rfl) (by kernel_rfl)
@[reducible] def i98 : List Ty := [.a q12, .a q12]
@[reducible] def o98 : List Ty := [.v (.bool)]
abbrev R98 := Option (PTup o98 × BTup i98)
abbrev F98 := PTup i98 → R98
abbrev g98 (c : F98) : Nat × Tev.Fn := (98, ⟨i98, o98, c, .nor⟩)
noncomputable def m98   (y : PTup i98) : Option (PTup o98 × BTup i98) :=
  bif (neI y.1.1 y.2.1.1) then (some ((false, ()), ()))
  else bif (neI y.1.2.1 y.2.1.2.1) then (some ((false, ()), ()))
  else bif (neI y.1.2.2.1 y.2.1.2.2.1) then (some ((false, ()), ()))
  else bif (neI y.1.2.2.2.1 y.2.1.2.2.2.1) then (some ((false, ()), ()))
  else bif (neI y.1.2.2.2.2.1 y.2.1.2.2.2.2.1) then (some ((false, ()), ()))
  else bif (!(y.1.2.2.2.2.2.1 == y.2.1.2.2.2.2.2.1)) then (some ((false, ()), ()))
  else bif (!(y.1.2.2.2.2.2.2.1 == y.2.1.2.2.2.2.2.2.1)) then (some ((false, ()), ()))
  else some ((true, ()), ())
noncomputable def E98  := mkE []
theorem s98   (y) : tevF (E98  ) Tryz.f98 i98 o98 y = m98   y := by kernel_rfl
noncomputable def r98 : F98 := m98  
theorem k98 : CK Tryz.prog (g98 r98) := fn0 (s98 ) (fnsL_ok trivial) rfl mixed (by kernel_rfl) (by kernel_rfl) (by kernel_rfl)
@[reducible] def i76 : List Ty := [.a q5, .a q5]
@[reducible] def o76 : List Ty := [.v (.bool)]
abbrev R76 := Option (PTup o76 × BTup i76)
abbrev F76 := PTup i76 → R76
abbrev g76 (c : F76) : Nat × Tev.Fn := (76, ⟨i76, o76, c, .nor⟩)
noncomputable def m76 (c98 : F98) (c35 : F35) (c163 : F163)  (y : PTup i76) : Option (PTup o76 × BTup i76) :=
  (c98 ((y.1.1, (y.1.2.1, (y.1.2.2.1, (y.1.2.2.2.1, (y.1.2.2.2.2.1, (y.1.2.2.2.2.2.1, (y.1.2.2.2.2.2.2.1, ()))))))), ((y.2.1.1, (y.2.1.2.1, (y.2.1.2.2.1, (y.2.1.2.2.2.1, (y.2.1.2.2.2.2.1, (y.2.1.2.2.2.2.2.1, (y.2.1.2.2.2.2.2.2.1, ()))))))), ()))).bind fun r0 =>
  bif (!r0.1.1) then (some ((false, ()), ()))
  else (c163 ((y.1.2.2.2.2.2.2.2.1, (y.1.2.2.2.2.2.2.2.2.1, ())), ((y.2.1.2.2.2.2.2.2.2.1, (y.2.1.2.2.2.2.2.2.2.2.1, ())), ()))).bind fun r1 =>
  bif (!r1.1.1) then (some ((false, ()), ()))
  else (c35 (y.1.2.2.2.2.2.2.2.2.2.1, y.2.1.2.2.2.2.2.2.2.2.2)).bind fun r2 =>
  bif (!r2.1.1) then (some ((false, ()), ()))
  else some ((true, ()), ())
noncomputable def E76 (c98 : F98) (c35 : F35) (c163 : F163) := mkE [g98 c98, g35 c35, g163 c163]
theorem s76 (c98 : F98) (c35 : F35) (c163 : F163)  (y) : tevF (E76 c98 c35 c163 ) Tryz.f76 i76 o76 y = m76 c98 c35 c163  y := by kernel_rfl
noncomputable def r76 : F76 := m76 r98 r35 r163 
theorem k76 : CK Tryz.prog (g76 r76) := fn0 (s76 r98 r35 r163) (fnsL_ok ⟨k98, k35, k163, trivial⟩) rfl mixed (by kernel_rfl) (by kernel_rfl) (by kernel_rfl)
@[reducible] def i19 : List Ty := [.a q6, .a q6]
@[reducible] def o19 : List Ty := [.v (.bool)]
abbrev R19 := Option (PTup o19 × BTup i19)
abbrev F19 := PTup i19 → R19
abbrev g19 (c : F19) : Nat × Tev.Fn := (19, ⟨i19, o19, c, .nor⟩)
noncomputable def m19 (c73 : F73) (c71 : F71) (c35 : F35) (c72 : F72) (c74 : F74) (c75 : F75) (c76 : F76)  (y : PTup i19) : Option (PTup o19 × BTup i19) :=
  let a0 := y.1; let a1 := y.2; let a2 := a0.2; let a3 := a1.1; let a4 := a2.2; let a5 := a3.2; let a6 := a4.2; let a7 := a5.2; let a8 := a6.2; let a9 := a7.2; let a10 := a8.2; let a11 := a9.2; let a12 := a10.2; let a13 := a11.2; let a14 := a12.2; let a15 := a13.2; let a16 := a14.2; let a17 := a15.2; let a18 := a16.2; let a19 := a17.2; let a20 := a18.2; let a21 := a19.2; let a22 := a20.2; let a23 := a21.2; let a24 := a22.2; let a25 := a23.2; let a26 := a24.2; let a27 := a25.2; let a28 := a26.2; let a29 := a27.2; let a30 := a28.2; let a31 := a29.2; let a32 := a30.2; let a33 := a31.2; let a34 := a32.2; let a35 := a33.2; let a36 := a34.2; let a37 := a35.2; let a38 := a36.2; let a39 := a37.2; let a40 := a38.2; let a41 := a39.2; let a42 := a40.2; let a43 := a41.2; let a44 := a42.2; let a45 := a43.2; let a46 := a44.2; let a47 := a45.2; let a48 := a47.2; let a49 := a46.2.2; let a50 := a48.2.2; let a51 := a49.2.2; let a52 := a50.2.2; (c71 ((a0.1, ()), ((a3.1, ()), ()))).bind fun r0 =>
  bif (!r0.1.1) then (some ((false, ()), ()))
  else (c35 (a2.1, (a5.1, ()))).bind fun r1 =>
  bif (!r1.1.1) then (some ((false, ()), ()))
  else (c72 ((a4.1, (a6.1, ())), ((a7.1, (a9.1, ())), ()))).bind fun r2 =>
  bif (!r2.1.1) then (some ((false, ()), ()))
  else (c73 ((a8.1, (a10.1, (a12.1, (a14.1, (a16.1, (a18.1, (a20.1, (a22.1, ())))))))), ((a11.1, (a13.1, (a15.1, (a17.1, (a19.1, (a21.1, (a23.1, (a25.1, ())))))))), ()))).bind fun r3 =>
  bif (!r3.1.1) then (some ((false, ()), ()))
  else (c74 ((a24.1, (a26.1, ())), ((a27.1, (a29.1, ())), ()))).bind fun r4 =>
  bif (!r4.1.1) then (some ((false, ()), ()))
  else bif (neI a28.1 a31.1) then (some ((false, ()), ()))
  else bif (!(a30.1 == a33.1)) then (some ((false, ()), ()))
  else bif (neI a32.1 a35.1) then (some ((false, ()), ()))
  else bif (!(a34.1 == a37.1)) then (some ((false, ()), ()))
  else bif (neI a36.1 a39.1) then (some ((false, ()), ()))
  else bif (neI a38.1 a41.1) then (some ((false, ()), ()))
  else (c35 (a40.1, (a43.1, ()))).bind fun r5 =>
  bif (!r5.1.1) then (some ((false, ()), ()))
  else (c75 ((a42.1, (a44.1, (a46.1, (a46.2.1, (a49.1, (a49.2.1, (a51.1, (a51.2.1, (a51.2.2.1, (a51.2.2.2.1, (a51.2.2.2.2.1, ()))))))))))), ((a45.1, (a47.1, (a48.1, (a48.2.1, (a50.1, (a50.2.1, (a52.1, (a52.2.1, (a52.2.2.1, (a52.2.2.2.1, (a52.2.2.2.2.1, ()))))))))))), ()))).bind fun r6 =>
  bif (!r6.1.1) then (some ((false, ()), ()))
  else (c76 (a51.2.2.2.2.2, (a52.2.2.2.2.2, ()))).bind fun r7 =>
  bif (!r7.1.1) then (some ((false, ()), ()))
  else some ((true, ()), ())
noncomputable def E19 (c73 : F73) (c71 : F71) (c35 : F35) (c72 : F72) (c74 : F74) (c75 : F75) (c76 : F76) := mkE [g73 c73, g71 c71, g35 c35, g72 c72, g74 c74, g75 c75, g76 c76]
theorem s19 (c73 : F73) (c71 : F71) (c35 : F35) (c72 : F72) (c74 : F74) (c75 : F75) (c76 : F76)  (y) : tevF (E19 c73 c71 c35 c72 c74 c75 c76 ) Tryz.f19 i19 o19 y = m19 c73 c71 c35 c72 c74 c75 c76  y := by kernel_rfl
noncomputable def r19 : F19 := m19 r73 r71 r35 r72 r74 r75 r76 
theorem k19 : CK Tryz.prog (g19 r19) := fn0 (s19 r73 r71 r35 r72 r74 r75 r76) (fnsL_ok ⟨k73, k71, k35, k72, k74, k75, k76, trivial⟩) rfl mixed (by kernel_rfl) (by kernel_rfl) (by kernel_rfl)
@[reducible] def i87 : List Ty := [.a q13]
@[reducible] def o87 : List Ty := [.v (.bool)]
abbrev R87 := Option (PTup o87 × BTup i87)
abbrev F87 := PTup i87 → R87
abbrev g87 (c : F87) : Nat × Tev.Fn := (87, ⟨i87, o87, c, .nor⟩)
noncomputable def m87 (c169 : F169) (c138 : F138) (c137 : F137) (c136 : F136) (c168 : F168) (c170 : F170) (c142 : F142) (c141 : F141)  (y : PTup i87) : Option (PTup o87 × BTup i87) :=
  let a0 := y.1; let a1 := a0.2; let a2 := a1.2; let a3 := a2.2; let a4 := a3.2; let a5 := a4.2; let a6 := a5.2; let a7 := a6.2; let a8 := a7.2; let a9 := a8.2; let a10 := a9.2; let a11 := a10.2; let a12 := a11.2; let a13 := a12.2; let a14 := a13.2; let a15 := a14.2; let a16 := a15.2; let a17 := a16.2; let a18 := a17.2; let a19 := a18.2; let a20 := a19.2; let a21 := a20.2; let a22 := a21.2.2; let a23 := a22.2.2; let a24 := a23.2.2.2; (c136 (a1.1, ())).bind fun r0 =>
  bif r0.1.1 then ((c137 ((a0.1, ()), ((a2.1, (a3.1, ())), ()))).bind fun r1 =>
   bif r1.1.1 then ((c138 ((a4.1, (a5.1, (a6.1, (a7.1, (a8.1, (a9.1, (a10.1, (a11.1, ())))))))), ())).bind fun r2 =>
    bif r2.1.1 then ((c168 ((a12.1, (a13.1, (a14.1, (a15.1, (a16.1, (a17.1, (a18.1, (a19.1, ())))))))), ())).bind fun r3 =>
     bif r3.1.1 then ((c169 ((a20.1, (a21.1, (a21.2.1, (a22.1, (a22.2.1, (a23.1, (a23.2.1, ()))))))), ())).bind fun r4 =>
      bif r4.1.1 then ((c141 (a24.1, ())).bind fun r5 =>
       bif r5.1.1 then (bif (eqI a12.1 a20.1) then ((c142 (a24.2.2.1, ((0 : Int), (a12.1, ())))).bind fun r6 =>
         bif r6.1.1 then ((c170 (a24.2.2.2.1, (a12.1, ()))).bind fun r7 =>
          bif r7.1.1 then (some (((eqI (lenI a24.2.2.2.2.1) (wI (Int.tdiv a12.1 (16 : Int)))), ()), ()))
          else some ((false, ()), ()))
         else some ((false, ()), ()))
        else some ((false, ()), ()))
       else some ((false, ()), ()))
      else some ((false, ()), ()))
     else some ((false, ()), ()))
    else some ((false, ()), ()))
   else some ((false, ()), ()))
  else some ((false, ()), ())
noncomputable def E87 (c169 : F169) (c138 : F138) (c137 : F137) (c136 : F136) (c168 : F168) (c170 : F170) (c142 : F142) (c141 : F141) := mkE [g169 c169, g138 c138, g137 c137, g136 c136, g168 c168, g170 c170, g142 c142, g141 c141]
theorem s87 (c169 : F169) (c138 : F138) (c137 : F137) (c136 : F136) (c168 : F168) (c170 : F170) (c142 : F142) (c141 : F141)  (y) : tevF (E87 c169 c138 c137 c136 c168 c170 c142 c141 ) Tryz.f87 i87 o87 y = m87 c169 c138 c137 c136 c168 c170 c142 c141  y := by kernel_rfl
noncomputable def r87 : F87 := m87 r169 r138 r137 r136 r168 r170 r142 r141 
theorem k87 : CK Tryz.prog (g87 r87) := fn0 (s87 r169 r138 r137 r136 r168 r170 r142 r141) (fnsL_ok ⟨k169, k138, k137, k136, k168, k170, k142, k141, trivial⟩) rfl mixed (by kernel_rfl) (by kernel_rfl) (by kernel_rfl)
@[reducible] def i88 : List Ty := [.a q13]
@[reducible] def o88 : List Ty := [.a q14]
abbrev R88 := Option (PTup o88 × BTup i88)
abbrev F88 := PTup i88 → R88
abbrev g88 (c : F88) : Nat × Tev.Fn := (88, ⟨i88, o88, c, .nor⟩)
noncomputable def m88 (c132 : F132) (c172 : F172) (c133 : F133) (c171 : F171)  (y : PTup i88) : Option (PTup o88 × BTup i88) :=
  let a0 := y.1; let a1 := a0.2; let a2 := a1.2; let a3 := a2.2; let a4 := a3.2; let a5 := a4.2; let a6 := a5.2; let a7 := a6.2; let a8 := a7.2; let a9 := a8.2; let a10 := a9.2; let a11 := a10.2; let a12 := a11.2; let a13 := a12.2; let a14 := a13.2; let a15 := a14.2; let a16 := a15.2; let a17 := a16.2; let a18 := a17.2; let a19 := a18.2; let a20 := a19.2; let a21 := a20.2; let a22 := a21.2; let a23 := a22.2; let a24 := a23.2; let a25 := a24.2; let a26 := a25.2; let a27 := a26.2.2; let a28 := a27.2.2; (c132 ((a0.1, ()), ())).bind fun r0 =>
  bif (leN (0 + (List.length a1.1)) (E.most .i)) then ((c133 ((a2.1, (a3.1, ())), ())).bind fun r1 =>
   (c171 ((a12.1, (a13.1, (a14.1, (a15.1, (a16.1, (a17.1, (a18.1, (a19.1, ())))))))), ())).bind fun r2 =>
   (c172 (a28.2.1, ())).bind fun r3 =>
   bif (leN (0 + (List.length a28.2.2.1)) (E.most .i)) then (bif (leN (0 + (List.length a28.2.2.2.1)) (E.most .i)) then (some (((r0.1.1.1, (([] ++ a1.1), (r1.1.1.1, (r1.1.1.2.1, (a4.1, (a5.1, (a6.1, (a7.1, (a8.1, (a9.1, (a10.1, (a11.1, (r2.1.1.1, (r2.1.1.2.1, (r2.1.1.2.2.1, (r2.1.1.2.2.2.1, (r2.1.1.2.2.2.2.1, (r2.1.1.2.2.2.2.2.1, (r2.1.1.2.2.2.2.2.2.1, (r2.1.1.2.2.2.2.2.2.2.1, (a20.1, (a21.1, (a22.1, (a23.1, (a24.1, (a25.1, (a26.1, (a26.2.1, (a27.1, (a27.2.1, (a28.1, (r3.1.1, (([] ++ a28.2.2.1), (([] ++ a28.2.2.2.1), ())))))))))))))))))))))))))))))))))), ()), ()))
    else none)
   else none)
  else none
noncomputable def E88 (c132 : F132) (c172 : F172) (c133 : F133) (c171 : F171) := mkE [g132 c132, g172 c172, g133 c133, g171 c171]
theorem s88 (c132 : F132) (c172 : F172) (c133 : F133) (c171 : F171)  (y) : tevF (E88 c132 c172 c133 c171 ) Tryz.f88 i88 o88 y = m88 c132 c172 c133 c171  y := by kernel_rfl
noncomputable def r88 : F88 := m88 r132 r172 r133 r171 
theorem k88 : CK Tryz.prog (g88 r88) := fn0 (s88 r132 r172 r133 r171) (fnsL_ok ⟨k132, k172, k133, k171, trivial⟩) rfl mixed (by kernel_rfl) (by kernel_rfl) (by kernel_rfl)
@[reducible] def i89 : List Ty := [.v (.int .i64), .v (.int .i64)]
@[reducible] def o89 : List Ty := [.v (.int .i64)]
abbrev R89 := Option (PTup o89 × BTup i89)
abbrev F89 := PTup i89 → R89
abbrev g89 (c : F89) : Nat × Tev.Fn := (89, ⟨i89, o89, c, .nor⟩)
noncomputable def m89   (y : PTup i89) : Option (PTup o89 × BTup i89) :=
  bif (ltI y.1 y.2.1) then (some ((y.1, ()), ()))
  else some (y.2, ())
noncomputable def E89  := mkE []
theorem s89   (y) : tevF (E89  ) Tryz.f89 i89 o89 y = m89   y := by kernel_rfl
noncomputable def r89 : F89 := m89  
theorem k89 : CK Tryz.prog (g89 r89) := fn0 (s89 ) (fnsL_ok trivial) rfl mixed (by kernel_rfl) (by kernel_rfl) (by kernel_rfl)
@[reducible] def i114 : List Ty := [.v (.bool)]
@[reducible] def o114 : List Ty := [.v (.int .i64)]
abbrev R114 := Option (PTup o114 × BTup i114)
abbrev F114 := PTup i114 → R114
abbrev g114 (c : F114) : Nat × Tev.Fn := (114, ⟨i114, o114, c, .nor⟩)
noncomputable def m114   (y : PTup i114) : Option (PTup o114 × BTup i114) :=
  bif y.1 then (some (((1 : Int), ()), ()))
  else some (((0 : Int), ()), ())
noncomputable def E114  := mkE []
theorem s114   (y) : tevF (E114  ) Tryz.f114 i114 o114 y = m114   y := by kernel_rfl
noncomputable def r114 : F114 := m114  
theorem k114 : CK Tryz.prog (g114 r114) := fn0 (s114 ) (fnsL_ok trivial) rfl mixed (by kernel_rfl) (by kernel_rfl) (by kernel_rfl)
@[reducible] def i263 : List Ty := [.a q8]
@[reducible] def o263 : List Ty := [.v (.int .i64)]
abbrev R263 := Option (PTup o263 × BTup i263)
abbrev F263 := PTup i263 → R263
abbrev g263 (c : F263) : Nat × Tev.Fn := (263, ⟨i263, o263, c, .nor⟩)
noncomputable def m263 (c114 : F114)  (y : PTup i263) : Option (PTup o263 × BTup i263) :=
  (c114 (y.1.2.2.2.2.2.2.1, ())).bind fun r0 =>
  (c114 (y.1.2.2.2.2.1, ())).bind fun r1 =>
  (c114 y.1.2.2.2.2.2.2.2).bind fun r2 =>
  (c114 (y.1.2.2.2.2.2.1, ())).bind fun r3 =>
  some (((wI ((wI ((wI (r0.1.1 + (wI ((2 : Int) * r1.1.1)))) + (wI ((4 : Int) * r2.1.1)))) + (wI ((128 : Int) * r3.1.1)))), ()), ())
noncomputable def E263 (c114 : F114) := mkE [g114 c114]
theorem s263 (c114 : F114)  (y) : tevF (E263 c114 ) Tryz.f263 i263 o263 y = m263 c114  y := by kernel_rfl
noncomputable def r263 : F263 := m263 r114 
theorem k263 : CK Tryz.prog (g263 r263) := fn0 (s263 r114) (fnsL_ok ⟨k114, trivial⟩) rfl mixed (by kernel_rfl) (by kernel_rfl) (by kernel_rfl)
@[reducible] def i264 : List Ty := [.a q1, .a q8, .v (.int .i64)]
@[reducible] def o264 : List Ty := [.a q7, .a q8]
abbrev R264 := Option (PTup o264 × BTup i264)
abbrev F264 := PTup i264 → R264
abbrev g264 (c : F264) : Nat × Tev.Fn := (264, ⟨i264, o264, c, .nor⟩)
noncomputable def m264 (c262 : F262) (c133 : F133)  (y : PTup i264) : Option (PTup o264 × BTup i264) :=
  (c133 (y.1, ())).bind fun r0 =>
  bif (neI (lenI y.1.1) (512 : Int)) then (some ((r0.1.1, (y.2.1, ())), ()))
  else (c262 (y.2.1.2.2.1, ())).bind fun r1 =>
  (c262 y.2.2).bind fun r2 =>
  bif (leI (0 : Int) (wI ((256 : Int) + r1.1.1))) then (bif (ltI (wI ((256 : Int) + r1.1.1)) (lenI r0.1.1.1)) then ((c262 ((wI (y.2.1.2.2.1 - (1 : Int))), ())).bind fun r3 =>
    some ((((List.set r0.1.1.1 (Int.toNat (wI ((256 : Int) + r1.1.1))) r2.1.1), r0.1.1.2), ((y.2.1.1, (y.2.1.2.1, (r3.1.1, y.2.1.2.2.2))), ())), ()))
   else none)
  else none
noncomputable def E264 (c262 : F262) (c133 : F133) := mkE [g262 c262, g133 c133]
theorem s264 (c262 : F262) (c133 : F133)  (y) : tevF (E264 c262 c133 ) Tryz.f264 i264 o264 y = m264 c262 c133  y := by kernel_rfl
noncomputable def r264 : F264 := m264 r262 r133 
theorem k264 : CK Tryz.prog (g264 r264) := fn0 (s264 r262 r133) (fnsL_ok ⟨k262, k133, trivial⟩) rfl mixed (by kernel_rfl) (by kernel_rfl) (by kernel_rfl)
@[reducible] def i261 : List Ty := [.v (.int .i64)]
@[reducible] def o261 : List Ty := [.v (.int .i64)]
abbrev R261 := Option (PTup o261 × BTup i261)
abbrev F261 := PTup i261 → R261
abbrev g261 (c : F261) : Nat × Tev.Fn := (261, ⟨i261, o261, c, .nor⟩)
noncomputable def m261   (y : PTup i261) : Option (PTup o261 × BTup i261) :=
  some (((bAnd Go.IntKind.i64 y.1 (65535 : Int)), ()), ())
noncomputable def E261  := mkE []
theorem s261   (y) : tevF (E261  ) Tryz.f261 i261 o261 y = m261   y := by kernel_rfl
noncomputable def r261 : F261 := m261  
theorem k261 : CK Tryz.prog (g261 r261) := fn0 (s261 ) (fnsL_ok trivial) rfl mixed (by kernel_rfl) (by kernel_rfl) (by kernel_rfl)
@[reducible] def i191 : List Ty := [.v (.int .i64)]
@[reducible] def o191 : List Ty := [.v (.int .i64), .v (.int .i64)]
abbrev R191 := Option (PTup o191 × BTup i191)
abbrev F191 := PTup i191 → R191
abbrev g191 (c : F191) : Nat × Tev.Fn := (191, ⟨i191, o191, c, .nor⟩)
noncomputable def m191 (c261 : F261)  (y : PTup i191) : Option (PTup o191 × BTup i191) :=
  (c261 y).bind fun r0 =>
  bif (ltI r0.1.1 (8192 : Int)) then (some (((1 : Int), ((Int.tmod r0.1.1 (512 : Int)), ())), ()))
  else bif (ltI r0.1.1 (16384 : Int)) then (some (((2 : Int), ((Int.tmod r0.1.1 (8 : Int)), ())), ()))
  else bif (ltI r0.1.1 (16388 : Int)) then (some (((3 : Int), ((Int.tmod r0.1.1 (4 : Int)), ())), ()))
  else bif (eqI r0.1.1 (16406 : Int)) then (some (((4 : Int), ((0 : Int), ())), ()))
  else bif (ltI r0.1.1 (32768 : Int)) then (some (((7 : Int), ((0 : Int), ())), ()))
  else bif (ltI r0.1.1 (49152 : Int)) then (some (((5 : Int), ((Int.tmod r0.1.1 (256 : Int)), ())), ()))
  else some (((6 : Int), ((Int.tmod r0.1.1 (256 : Int)), ())), ())
noncomputable def E191 (c261 : F261) := mkE [g261 c261]
theorem s191 (c261 : F261)  (y) : tevF (E191 c261 ) Tryz.f191 i191 o191 y = m191 c261  y := by kernel_rfl
noncomputable def r191 : F191 := m191 r261 
theorem k191 : CK Tryz.prog (g191 r191) := fn0 (s191 r261) (fnsL_ok ⟨k261, trivial⟩) rfl mixed (by kernel_rfl) (by kernel_rfl) (by kernel_rfl)
@[reducible] def i268 : List Ty := [.a q0, .a q1, .v (.int .i64)]
@[reducible] def o268 : List Ty := [.v (.int .i64)]
abbrev R268 := Option (PTup o268 × BTup i268)
abbrev F268 := PTup i268 → R268
abbrev g268 (c : F268) : Nat × Tev.Fn := (268, ⟨i268, o268, c, .nor⟩)
noncomputable def m268 (c191 : F191)  (y : PTup i268) : Option (PTup o268 × BTup i268) :=
  (c191 y.2.2).bind fun r0 =>
  bif (eqI r0.1.1 (1 : Int)) then (bif (leI (0 : Int) r0.1.2.1) then (bif (ltI r0.1.2.1 (lenI y.2.1.1)) then (some (((rdE .i y.2.1.1 r0.1.2.1), ()), ()))
    else none)
   else none)
  else bif (eqI r0.1.1 (5 : Int)) then (bif (leI (0 : Int) y.2.1.2.1) then (bif (ltI y.2.1.2.1 (lenI y.1.1)) then (bif (leI (0 : Int) r0.1.2.1) then (bif (ltI r0.1.2.1 (lenI (rdE .n y.1.1 y.2.1.2.1))) then (some (((rdI (rdE .n y.1.1 y.2.1.2.1) r0.1.2.1), ()), ()))
      else none)
     else none)
    else none)
   else none)
  else bif (eqI r0.1.1 (6 : Int)) then (bif (leI (0 : Int) (wI ((lenI y.1.1) - (1 : Int)))) then (bif (ltI (wI ((lenI y.1.1) - (1 : Int))) (lenI y.1.1)) then (bif (leI (0 : Int) r0.1.2.1) then (bif (ltI r0.1.2.1 (lenI (rdE .n y.1.1 (wI ((lenI y.1.1) - (1 : Int)))))) then (some (((rdI (rdE .n y.1.1 (wI ((lenI y.1.1) - (1 : Int)))) r0.1.2.1), ()), ()))
      else none)
     else none)
    else none)
   else none)
  else some (((0 : Int), ()), ())
noncomputable def E268 (c191 : F191) := mkE [g191 c191]
theorem s268 (c191 : F191)  (y) : tevF (E268 c191 ) Tryz.f268 i268 o268 y = m268 c191  y := by kernel_rfl
noncomputable def r268 : F268 := m268 r191 
theorem k268 : CK Tryz.prog (g268 r268) := fn0 (s268 r191) (fnsL_ok ⟨k191, trivial⟩) rfl mixed (by kernel_rfl) (by kernel_rfl) (by kernel_rfl)
@[reducible] def i257 : List Ty := [.a q0, .a q1, .v (.int .i64)]
@[reducible] def o257 : List Ty := [.v (.int .i64)]
abbrev R257 := Option (PTup o257 × BTup i257)
abbrev F257 := PTup i257 → R257
abbrev g257 (c : F257) : Nat × Tev.Fn := (257, ⟨i257, o257, c, .nor⟩)
noncomputable def m257 (c137 : F137) (c268 : F268)  (y : PTup i257) : Option (PTup o257 × BTup i257) :=
  (c137 (y.1, (y.2.1, ()))).bind fun r0 =>
  bif (!r0.1.1) then (some (((0 : Int), ()), ()))
  else (c268 y).bind fun r1 =>
  some (r1.1, ())
noncomputable def E257 (c137 : F137) (c268 : F268) := mkE [g137 c137, g268 c268]
theorem s257 (c137 : F137) (c268 : F268)  (y) : tevF (E257 c137 c268 ) Tryz.f257 i257 o257 y = m257 c137 c268  y := by kernel_rfl
noncomputable def r257 : F257 := m257 r137 r268 
theorem k257 : CK Tryz.prog (g257 r257) := fn0 (s257 r137 r268) (fnsL_ok ⟨k137, k268, trivial⟩) rfl mixed (by kernel_rfl) (by kernel_rfl) (by kernel_rfl)
@[reducible] def i259 : List Ty := [.v (.int .i64), .v (.int .i64)]
@[reducible] def o259 : List Ty := [.v (.int .i64)]
abbrev R259 := Option (PTup o259 × BTup i259)
abbrev F259 := PTup i259 → R259
abbrev g259 (c : F259) : Nat × Tev.Fn := (259, ⟨i259, o259, c, .nor⟩)
noncomputable def m259 (c262 : F262)  (y : PTup i259) : Option (PTup o259 × BTup i259) :=
  (c262 (y.1, ())).bind fun r0 =>
  (c262 y.2).bind fun r1 =>
  some (((wI (r0.1.1 + (wI ((256 : Int) * r1.1.1)))), ()), ())
noncomputable def E259 (c262 : F262) := mkE [g262 c262]
theorem s259 (c262 : F262)  (y) : tevF (E259 c262 ) Tryz.f259 i259 o259 y = m259 c262  y := by kernel_rfl
noncomputable def r259 : F259 := m259 r262 
theorem k259 : CK Tryz.prog (g259 r259) := fn0 (s259 r262) (fnsL_ok ⟨k262, trivial⟩) rfl mixed (by kernel_rfl) (by kernel_rfl) (by kernel_rfl)
@[reducible] def i194 : List Ty := [.a q0, .a q1, .a q8, .v (.int .i64)]
@[reducible] def o194 : List Ty := [.a q7, .a q8]
abbrev R194 := Option (PTup o194 × BTup i194)
abbrev F194 := PTup i194 → R194
abbrev g194 (c : F194) : Nat × Tev.Fn := (194, ⟨i194, o194, c, .nor⟩)
noncomputable def m194 (c263 : F263) (c259 : F259) (c257 : F257) (c264 : F264) (c133 : F133)  (y : PTup i194) : Option (PTup o194 × BTup i194) :=
  (c133 (y.2.1, ())).bind fun r0 =>
  (c263 (y.2.2.1, ())).bind fun r1 =>
  (c264 (r0.1.1, (y.2.2.1, ((Int.fdiv y.2.2.1.2.2.2.1 ((2 : Int) ^ (Min.min (Int.toNat (8 : Int)) (64 : Nat)))), ())))).bind fun r2 =>
  (c264 (r2.1.1, (r2.1.2.1, (r2.1.2.1.2.2.2.1, ())))).bind fun r3 =>
  (c264 (r3.1.1, (r3.1.2.1, r1.1))).bind fun r4 =>
  (c257 (y.1, (r4.1.1, y.2.2.2))).bind fun r5 =>
  (c257 (y.1, (r4.1.1, ((wI (y.2.2.2.1 + (1 : Int))), ())))).bind fun r6 =>
  (c259 (r5.1.1, r6.1)).bind fun r7 =>
  some ((r4.1.1, ((r4.1.2.1.1, (r4.1.2.1.2.1, (r4.1.2.1.2.2.1, (r7.1.1, (r4.1.2.1.2.2.2.2.1, (r4.1.2.1.2.2.2.2.2.1, (r4.1.2.1.2.2.2.2.2.2.1, (true, ())))))))), ())), ())
noncomputable def E194 (c263 : F263) (c259 : F259) (c257 : F257) (c264 : F264) (c133 : F133) := mkE [g263 c263, g259 c259, g257 c257, g264 c264, g133 c133]
theorem s194 (c263 : F263) (c259 : F259) (c257 : F257) (c264 : F264) (c133 : F133)  (y) : tevF (E194 c263 c259 c257 c264 c133 ) Tryz.f194 i194 o194 y = m194 c263 c259 c257 c264 c133  y := by kernel_rfl
noncomputable def r194 : F194 := m194 r263 r259 r257 r264 r133 
theorem k194 : CK Tryz.prog (g194 r194) := fn0 (s194 r263 r259 r257 r264 r133) (fnsL_ok ⟨k263, k259, k257, k264, k133, trivial⟩) rfl mixed (by kernel_rfl) (by kernel_rfl) (by kernel_rfl)
@[reducible] def i258 : List Ty := [.v (.int .i64)]
@[reducible] def o258 : List Ty := [.v (.int .i64)]
abbrev R258 := Option (PTup o258 × BTup i258)
abbrev F258 := PTup i258 → R258
abbrev g258 (c : F258) : Nat × Tev.Fn := (258, ⟨i258, o258, c, .nor⟩)
noncomputable def m258 (c142 : F142)  (y : PTup i258) : Option (PTup o258 × BTup i258) :=
  (c142 (y.1, ((0 : Int), ((29 : Int), ())))).bind fun r0 =>
  bif (!r0.1.1) then (some (((1 : Int), ()), ()))
  else bif (leI (0 : Int) y.1) then (bif (ltI y.1 (lenI ((1 : Int) :: ((2 : Int) :: ((3 : Int) :: ((3 : Int) :: ((2 : Int) :: ((2 : Int) :: ((2 : Int) :: ((2 : Int) :: ((2 : Int) :: ((2 : Int) :: ((1 : Int) :: ((1 : Int) :: ((1 : Int) :: ((1 : Int) :: ((3 : Int) :: ((3 : Int) :: ((3 : Int) :: ((3 : Int) :: ((3 : Int) :: ((3 : Int) :: ((3 : Int) :: ((1 : Int) :: ((1 : Int) :: ((1 : Int) :: ((1 : Int) :: ((1 : Int) :: ((1 : Int) :: ((1 : Int) :: ((1 : Int) :: ((3 : Int) :: [])))))))))))))))))))))))))))))))) then (some (((rdE .i ((1 : Int) :: ((2 : Int) :: ((3 : Int) :: ((3 : Int) :: ((2 : Int) :: ((2 : Int) :: ((2 : Int) :: ((2 : Int) :: ((2 : Int) :: ((2 : Int) :: ((1 : Int) :: ((1 : Int) :: ((1 : Int) :: ((1 : Int) :: ((3 : Int) :: ((3 : Int) :: ((3 : Int) :: ((3 : Int) :: ((3 : Int) :: ((3 : Int) :: ((3 : Int) :: ((1 : Int) :: ((1 : Int) :: ((1 : Int) :: ((1 : Int) :: ((1 : Int) :: ((1 : Int) :: ((1 : Int) :: ((1 : Int) :: ((3 : Int) :: [])))))))))))))))))))))))))))))) y.1), ()), ()))
   else none)
  else none
noncomputable def E258 (c142 : F142) := mkE [g142 c142]
theorem s258 (c142 : F142)  (y) : tevF (E258 c142 ) Tryz.f258 i258 o258 y = m258 c142  y := by kernel_rfl
noncomputable def r258 : F258 := m258 r142 
theorem k258 : CK Tryz.prog (g258 r258) := fn0 (s258 r142) (fnsL_ok ⟨k142, trivial⟩) rfl mixed (by kernel_rfl) (by kernel_rfl) (by kernel_rfl)
@[reducible] def i189 : List Ty := [.a q0, .a q1, .v (.int .i64)]
@[reducible] def o189 : List Ty := [.a q15]
abbrev R189 := Option (PTup o189 × BTup i189)
abbrev F189 := PTup i189 → R189
abbrev g189 (c : F189) : Nat × Tev.Fn := (189, ⟨i189, o189, c, .nor⟩)
noncomputable def m189 (c259 : F259) (c258 : F258) (c257 : F257)  (y : PTup i189) : Option (PTup o189 × BTup i189) :=
  (c257 y).bind fun r0 =>
  (c258 r0.1).bind fun r1 =>
  bif (eqI r1.1.1 (2 : Int)) then ((c257 (y.1, (y.2.1, ((wI (y.2.2.1 + (1 : Int))), ())))).bind fun r2 =>
   some (((r0.1.1, r2.1), ()), ()))
  else bif (eqI r1.1.1 (3 : Int)) then ((c257 (y.1, (y.2.1, ((wI (y.2.2.1 + (1 : Int))), ())))).bind fun r2 =>
   (c257 (y.1, (y.2.1, ((wI (y.2.2.1 + (2 : Int))), ())))).bind fun r3 =>
   (c259 (r2.1.1, r3.1)).bind fun r4 =>
   some (((r0.1.1, r4.1), ()), ()))
  else some (((r0.1.1, ((0 : Int), ())), ()), ())
noncomputable def E189 (c259 : F259) (c258 : F258) (c257 : F257) := mkE [g259 c259, g258 c258, g257 c257]
theorem s189 (c259 : F259) (c258 : F258) (c257 : F257)  (y) : tevF (E189 c259 c258 c257 ) Tryz.f189 i189 o189 y = m189 c259 c258 c257  y := by kernel_rfl
noncomputable def r189 : F189 := m189 r259 r258 r257 
theorem k189 : CK Tryz.prog (g189 r189) := fn0 (s189 r259 r258 r257) (fnsL_ok ⟨k259, k258, k257, trivial⟩) rfl mixed (by kernel_rfl) (by kernel_rfl) (by kernel_rfl)
@[reducible] def i260 : List Ty := [.v (.int .i64)]
@[reducible] def o260 : List Ty := [.v (.int .i64)]
abbrev R260 := Option (PTup o260 × BTup i260)
abbrev F260 := PTup i260 → R260
abbrev g260 (c : F260) : Nat × Tev.Fn := (260, ⟨i260, o260, c, .nor⟩)
noncomputable def m260   (y : PTup i260) : Option (PTup o260 × BTup i260) :=
  let X0 : R260 := bif (eqI y.1 (3 : Int)) then (bif (eqI y.1 (3 : Int)) then (some (((2 : Int), ()), ())) else some (((0 : Int), ()), ())) else bif (eqI y.1 (15 : Int)) then (some (((2 : Int), ()), ())) else some (((0 : Int), ()), ()); bif (eqI y.1 (2 : Int)) then (bif (eqI y.1 (2 : Int)) then (some (((1 : Int), ()), ())) else X0) else bif (eqI y.1 (14 : Int)) then (bif (eqI y.1 (14 : Int)) then (some (((1 : Int), ()), ())) else X0) else bif (eqI y.1 (29 : Int)) then (some (((1 : Int), ()), ())) else X0
noncomputable def E260  := mkE []
theorem s260   (y) : tevF (E260  ) Tryz.f260 i260 o260 y = m260   y := by kernel_rfl
noncomputable def r260 : F260 := m260  
theorem k260 : CK Tryz.prog (g260 r260) := fn0 (s260 ) (fnsL_ok trivial) rfl mixed (by kernel_rfl) (by kernel_rfl) (by kernel_rfl)
@[reducible] def i190 : List Ty := [.a q15, .a q8]
@[reducible] def o190 : List Ty := [.v (.int .i64), .v (.int .i64), .v (.int .i64)]
abbrev R190 := Option (PTup o190 × BTup i190)
abbrev F190 := PTup i190 → R190
abbrev g190 (c : F190) : Nat × Tev.Fn := (190, ⟨i190, o190, c, .nor⟩)
noncomputable def m190 (c261 : F261) (c262 : F262) (c260 : F260)  (y : PTup i190) : Option (PTup o190 × BTup i190) :=
  (c260 (y.1.1, ())).bind fun r0 => let X0 : R190 := bif (eqI r0.1.1 (1 : Int)) then ((c261 ((wI (y.1.2.1 + y.2.1.2.1)), ())).bind fun r1 => some ((r0.1.1, (r1.1.1, ((0 : Int), ()))), ())) else (c261 ((wI (y.1.2.1 + y.2.1.2.1)), ())).bind fun r1 => (c262 (y.2.1.1, ())).bind fun r2 => some ((r0.1.1, (r1.1.1, r2.1)), ()); bif (eqI r0.1.1 (0 : Int)) then (some (((0 : Int), ((0 : Int), ((0 : Int), ()))), ())) else bif (eqI y.1.1 (14 : Int)) then X0 else bif (eqI y.1.1 (15 : Int)) then X0 else bif (eqI r0.1.1 (1 : Int)) then ((c261 y.1.2).bind fun r1 => some ((r0.1.1, (r1.1.1, ((0 : Int), ()))), ())) else (c261 y.1.2).bind fun r1 => (c262 (y.2.1.1, ())).bind fun r2 => some ((r0.1.1, (r1.1.1, r2.1)), ())
noncomputable def E190 (c261 : F261) (c262 : F262) (c260 : F260) := mkE [g261 c261, g262 c262, g260 c260]
theorem s190 (c261 : F261) (c262 : F262) (c260 : F260)  (y) : tevF (E190 c261 c262 c260 ) Tryz.f190 i190 o190 y = m190 c261 c262 c260  y := by kernel_rfl
noncomputable def r190 : F190 := m190 r261 r262 r260 
theorem k190 : CK Tryz.prog (g190 r190) := fn0 (s190 r261 r262 r260) (fnsL_ok ⟨k261, k262, k260, trivial⟩) rfl mixed (by kernel_rfl) (by kernel_rfl) (by kernel_rfl)
@[reducible] def i265 : List Ty := [.a q2, .v (.int .i64)]
@[reducible] def o265 : List Ty := [.a q10, .v (.int .i64)]
abbrev R265 := Option (PTup o265 × BTup i265)
abbrev F265 := PTup i265 → R265
abbrev g265 (c : F265) : Nat × Tev.Fn := (265, ⟨i265, o265, c, .nor⟩)
noncomputable def m265 (c168 : F168) (c114 : F114) (c171 : F171)  (y : PTup i265) : Option (PTup o265 × BTup i265) :=
  (c171 (y.1, ())).bind fun r0 =>
  (c168 (y.1, ())).bind fun r1 =>
  bif (!r1.1.1) then (some ((r0.1.1, ((0 : Int), ())), ()))
  else bif (eqI y.2.1 (2 : Int)) then ((c114 (y.1.2.2.2.2.2.1, ())).bind fun r2 =>
   some (((r0.1.1.1, (r0.1.1.2.1, (r0.1.1.2.2.1, (r0.1.1.2.2.2.1, (r0.1.1.2.2.2.2.1, (false, r0.1.1.2.2.2.2.2.2)))))), ((wI ((128 : Int) * r2.1.1)), ())), ()))
  else bif (eqI y.2.1 (4 : Int)) then (bif (leI (0 : Int) y.1.2.2.2.1) then (bif (ltI y.1.2.2.2.1 (lenI y.1.2.2.2.2.2.2.1)) then (some (((r0.1.1.1, (r0.1.1.2.1, (r0.1.1.2.2.1, ((Int.tmod (wI (y.1.2.2.2.1 + (1 : Int))) (16 : Int)), r0.1.1.2.2.2.2)))), ((rdE .i y.1.2.2.2.2.2.2.1 y.1.2.2.2.1), ())), ()))
    else none)
   else none)
  else some ((r0.1.1, ((0 : Int), ())), ())
noncomputable def E265 (c168 : F168) (c114 : F114) (c171 : F171) := mkE [g168 c168, g114 c114, g171 c171]
theorem s265 (c168 : F168) (c114 : F114) (c171 : F171)  (y) : tevF (E265 c168 c114 c171 ) Tryz.f265 i265 o265 y = m265 c168 c114 c171  y := by kernel_rfl
noncomputable def r265 : F265 := m265 r168 r114 r171 
theorem k265 : CK Tryz.prog (g265 r265) := fn0 (s265 r168 r114 r171) (fnsL_ok ⟨k168, k114, k171, trivial⟩) rfl mixed (by kernel_rfl) (by kernel_rfl) (by kernel_rfl)
@[reducible] def i266 : List Ty := [.a q12, .v (.int .i64)]
@[reducible] def o266 : List Ty := [.a q12, .v (.int .i64)]
abbrev R266 := Option (PTup o266 × BTup i266)
abbrev F266 := PTup i266 → R266
abbrev g266 (c : F266) : Nat × Tev.Fn := (266, ⟨i266, o266, c, .nor⟩)
noncomputable def m266 (c169 : F169) (c114 : F114)  (y : PTup i266) : Option (PTup o266 × BTup i266) :=
  (c169 (y.1, ())).bind fun r0 =>
  bif (!r0.1.1) then (some ((y.1, ((0 : Int), ())), ()))
  else bif (neI y.2.1 (2 : Int)) then (some ((y.1, ((0 : Int), ())), ()))
  else (c114 y.1.2.2.2.2.2.2).bind fun r1 =>
  (c114 ((ltI (0 : Int) y.1.2.2.2.2.1), ())).bind fun r2 =>
  some (((y.1.1, (y.1.2.1, (y.1.2.2.1, (y.1.2.2.2.1, (y.1.2.2.2.2.1, (y.1.2.2.2.2.2.1, (false, ()))))))), ((wI ((wI ((128 : Int) * r1.1.1)) + r2.1.1)), ())), ())
noncomputable def E266 (c169 : F169) (c114 : F114) := mkE [g169 c169, g114 c114]
theorem s266 (c169 : F169) (c114 : F114)  (y) : tevF (E266 c169 c114 ) Tryz.f266 i266 o266 y = m266 c169 c114  y := by kernel_rfl
noncomputable def r266 : F266 := m266 r169 r114 
theorem k266 : CK Tryz.prog (g266 r266) := fn0 (s266 r169 r114) (fnsL_ok ⟨k169, k114, trivial⟩) rfl mixed (by kernel_rfl) (by kernel_rfl) (by kernel_rfl)
@[reducible] def i116 : List Ty := [.v (.int .i64), .v (.int .i64)]
@[reducible] def o116 : List Ty := [.v (.int .i64)]
abbrev R116 := Option (PTup o116 × BTup i116)
abbrev F116 := PTup i116 → R116
abbrev g116 (c : F116) : Nat × Tev.Fn := (116, ⟨i116, o116, c, .nor⟩)
noncomputable def m116   (y : PTup i116) : Option (PTup o116 × BTup i116) :=
  bif (ltI y.2.1 y.1) then (some ((y.1, ()), ()))
  else some (y.2, ())
noncomputable def E116  := mkE []
theorem s116   (y) : tevF (E116  ) Tryz.f116 i116 o116 y = m116   y := by kernel_rfl
noncomputable def r116 : F116 := m116  
theorem k116 : CK Tryz.prog (g116 r116) := fn0 (s116 ) (fnsL_ok trivial) rfl mixed (by kernel_rfl) (by kernel_rfl) (by kernel_rfl)
@[reducible] def i326 : List Ty := [.v (.int .i64)]
@[reducible] def o326 : List Ty := [.v (.int .i64)]
abbrev R326 := Option (PTup o326 × BTup i326)
abbrev F326 := PTup i326 → R326
abbrev g326 (c : F326) : Nat × Tev.Fn := (326, ⟨i326, o326, c, .nor⟩)
noncomputable def m326 (c116 : F116)  (y : PTup i326) : Option (PTup o326 × BTup i326) :=
  (c116 (y.1, ((0 : Int), ()))).bind fun r0 =>
  some (((wI (Int.tdiv r0.1.1 (64 : Int))), ()), ())
noncomputable def E326 (c116 : F116) := mkE [g116 c116]
theorem s326 (c116 : F116)  (y) : tevF (E326 c116 ) Tryz.f326 i326 o326 y = m326 c116  y := by kernel_rfl
noncomputable def r326 : F326 := m326 r116 
theorem k326 : CK Tryz.prog (g326 r326) := fn0 (s326 r116) (fnsL_ok ⟨k116, trivial⟩) rfl mixed (by kernel_rfl) (by kernel_rfl) (by kernel_rfl)
@[reducible] def i309 : List Ty := [.v (.sl false .i), .v (.int .i64)]
@[reducible] def o309 : List Ty := [.v (.int .i64)]
abbrev R309 := Option (PTup o309 × BTup i309)
abbrev F309 := PTup i309 → R309
abbrev g309 (c : F309) : Nat × Tev.Fn := (309, ⟨i309, o309, c, .nor⟩)
noncomputable def m309 (c326 : F326) (c136 : F136)  (y : PTup i309) : Option (PTup o309 × BTup i309) :=
  (c136 (y.1, ())).bind fun r0 =>
  bif (!r0.1.1) then (some (((0 : Int), ()), ()))
  else bif (eqI (lenI y.1) (0 : Int)) then (some (((0 : Int), ()), ()))
  else (c326 y.2).bind fun r1 =>
  bif (neI (lenI y.1) (0 : Int)) then (bif (leI (0 : Int) (Int.tmod r1.1.1 (lenI y.1))) then (bif (ltI (Int.tmod r1.1.1 (lenI y.1)) (lenI y.1)) then (some (((rdE .i y.1 (Int.tmod r1.1.1 (lenI y.1))), ()), ()))
    else none)
   else none)
  else none
noncomputable def E309 (c326 : F326) (c136 : F136) := mkE [g326 c326, g136 c136]
theorem s309 (c326 : F326) (c136 : F136)  (y) : tevF (E309 c326 c136 ) Tryz.f309 i309 o309 y = m309 c326 c136  y := by kernel_rfl
noncomputable def r309 : F309 := m309 r326 r136 
theorem k309 : CK Tryz.prog (g309 r309) := fn0 (s309 r326 r136) (fnsL_ok ⟨k326, k136, trivial⟩) rfl mixed (by kernel_rfl) (by kernel_rfl) (by kernel_rfl)
@[reducible] def i267 : List Ty := [.a q9, .v (.sl false .i), .v (.int .i64)]
@[reducible] def o267 : List Ty := [.a q9, .v (.int .i64)]
abbrev R267 := Option (PTup o267 × BTup i267)
abbrev F267 := PTup i267 → R267
abbrev g267 (c : F267) : Nat × Tev.Fn := (267, ⟨i267, o267, c, .nor⟩)
noncomputable def m267 (c309 : F309)  (y : PTup i267) : Option (PTup o267 × BTup i267) :=
  bif y.1.1 then ((c309 y.2).bind fun r0 =>
   some (((y.1.1, r0.1), ((bAnd Go.IntKind.i64 r0.1.1 (1 : Int)), ())), ()))
  else some (((y.1.1, ((Int.fdiv y.1.2.1 ((2 : Int) ^ (Min.min (Int.toNat (1 : Int)) (64 : Nat)))), ())), ((bAnd Go.IntKind.i64 y.1.2.1 (1 : Int)), ())), ())
noncomputable def E267 (c309 : F309) := mkE [g309 c309]
theorem s267 (c309 : F309)  (y) : tevF (E267 c309 ) Tryz.f267 i267 o267 y = m267 c309  y := by kernel_rfl
noncomputable def r267 : F267 := m267 r309 
theorem k267 : CK Tryz.prog (g267 r267) := fn0 (s267 r309) (fnsL_ok ⟨k309, trivial⟩) rfl mixed (by kernel_rfl) (by kernel_rfl) (by kernel_rfl)
@[reducible] def i292 : List Ty := [.a q14, .v (.int .i64)]
@[reducible] def o292 : List Ty := [.a q14, .v (.int .i64)]
abbrev R292 := Option (PTup o292 × BTup i292)
abbrev F292 := PTup i292 → R292
abbrev g292 (c : F292) : Nat × Tev.Fn := (292, ⟨i292, o292, c, .nor⟩)
noncomputable def m292 (c266 : F266) (c267 : F267) (c265 : F265) (c191 : F191) (c268 : F268)  (y : PTup i292) : Option (PTup o292 × BTup i292) :=
  let a0 := y.1; let a1 := a0.2; let a2 := a1.2; let a3 := a2.2; let a4 := a3.2; let a5 := a4.2; let a6 := a5.2; let a7 := a6.2; let a8 := a7.2; let a9 := a8.2; let a10 := a9.2; let a11 := a10.2; let a12 := a11.2; let a13 := a12.2; let a14 := a13.2; let a15 := a14.2; let a16 := a15.2; let a17 := a16.2; let a18 := a17.2; let a19 := a18.2; let a20 := a19.2; let a21 := a20.2; let a22 := a21.2; let a23 := a22.2; let a24 := a23.2; let a25 := a24.2; let a26 := a25.2; let a27 := a26.2; let a28 := a27.2; let a29 := a28.2; let a30 := a29.2; let a31 := a30.2; let a32 := a31.2.2; (c191 y.2).bind fun r0 =>
  bif (eqI r0.1.1 (2 : Int)) then ((c265 ((a12.1, (a13.1, (a14.1, (a15.1, (a16.1, (a17.1, (a18.1, (a19.1, ())))))))), r0.1.2)).bind fun r1 =>
   bif (leN ((List.length a32.1) + (List.length (r1.1.2.1 :: []))) (E.most .i)) then (some (((a0.1, (a1.1, (a2.1, (a3.1, (a4.1, (a5.1, (a6.1, (a7.1, (a8.1, (a9.1, (a10.1, (a11.1, (r1.1.1.1, (r1.1.1.2.1, (r1.1.1.2.2.1, (r1.1.1.2.2.2.1, (r1.1.1.2.2.2.2.1, (r1.1.1.2.2.2.2.2.1, (r1.1.1.2.2.2.2.2.2.1, (r1.1.1.2.2.2.2.2.2.2.1, (a20.1, (a21.1, (a22.1, (a23.1, (a24.1, (a25.1, (a26.1, (a27.1, (a28.1, (a29.1, (a30.1, (a31.1, (a31.2.1, ((a32.1 ++ (r1.1.2.1 :: [])), ())))))))))))))))))))))))))))))))))), r1.1.2), ()))
   else none)
  else bif (eqI r0.1.1 (3 : Int)) then ((c266 ((a20.1, (a21.1, (a22.1, (a23.1, (a24.1, (a25.1, (a26.1, ()))))))), r0.1.2)).bind fun r1 =>
   bif (leN ((List.length a32.1) + (List.length (r1.1.2.1 :: []))) (E.most .i)) then (some (((a0.1, (a1.1, (a2.1, (a3.1, (a4.1, (a5.1, (a6.1, (a7.1, (a8.1, (a9.1, (a10.1, (a11.1, (a12.1, (a13.1, (a14.1, (a15.1, (a16.1, (a17.1, (a18.1, (a19.1, (r1.1.1.1, (r1.1.1.2.1, (r1.1.1.2.2.1, (r1.1.1.2.2.2.1, (r1.1.1.2.2.2.2.1, (r1.1.1.2.2.2.2.2.1, (r1.1.1.2.2.2.2.2.2.1, (a27.1, (a28.1, (a29.1, (a30.1, (a31.1, (a31.2.1, ((a32.1 ++ (r1.1.2.1 :: [])), ())))))))))))))))))))))))))))))))))), r1.1.2), ()))
   else none)
  else bif (eqI r0.1.1 (4 : Int)) then ((c267 ((a27.1, (a28.1, ())), (a1.1, (a12.1, ())))).bind fun r1 =>
   bif (leN ((List.length a32.1) + (List.length (r1.1.2.1 :: []))) (E.most .i)) then (some (((a0.1, (a1.1, (a2.1, (a3.1, (a4.1, (a5.1, (a6.1, (a7.1, (a8.1, (a9.1, (a10.1, (a11.1, (a12.1, (a13.1, (a14.1, (a15.1, (a16.1, (a17.1, (a18.1, (a19.1, (a20.1, (a21.1, (a22.1, (a23.1, (a24.1, (a25.1, (a26.1, (r1.1.1.1, (r1.1.1.2.1, (a29.1, (a30.1, (a31.1, (a31.2.1, ((a32.1 ++ (r1.1.2.1 :: [])), ())))))))))))))))))))))))))))))))))), r1.1.2), ()))
   else none)
  else (c268 ((a0.1, ()), ((a2.1, (a3.1, ())), y.2))).bind fun r1 =>
  some ((a0, r1.1), ())
noncomputable def E292 (c266 : F266) (c267 : F267) (c265 : F265) (c191 : F191) (c268 : F268) := mkE [g266 c266, g267 c267, g265 c265, g191 c191, g268 c268]
theorem s292 (c266 : F266) (c267 : F267) (c265 : F265) (c191 : F191) (c268 : F268)  (y) : tevF (E292 c266 c267 c265 c191 c268 ) Tryz.f292 i292 o292 y = m292 c266 c267 c265 c191 c268  y := by kernel_rfl
noncomputable def r292 : F292 := m292 r266 r267 r265 r191 r268 
theorem k292 : CK Tryz.prog (g292 r292) := fn0 (s292 r266 r267 r265 r191 r268) (fnsL_ok ⟨k266, k267, k265, k191, k268, trivial⟩) rfl mixed (by kernel_rfl) (by kernel_rfl) (by kernel_rfl)
@[reducible] def i269 : List Ty := [.a q9, .v (.sl false .i), .v (.int .i64), .v (.int .i64)]
@[reducible] def o269 : List Ty := [.a q9]
abbrev R269 := Option (PTup o269 × BTup i269)
abbrev F269 := PTup i269 → R269
abbrev g269 (c : F269) : Nat × Tev.Fn := (269, ⟨i269, o269, c, .nor⟩)
noncomputable def m269 (c309 : F309)  (y : PTup i269) : Option (PTup o269 × BTup i269) :=
  bif y.1.1 then ((c309 (y.2.1, (y.2.2.1, ()))).bind fun r0 =>
   some ((((eqI (bAnd Go.IntKind.i64 y.2.2.2.1 (1 : Int)) (1 : Int)), r0.1), ()), ()))
  else bif (eqI (bAnd Go.IntKind.i64 y.2.2.2.1 (1 : Int)) (1 : Int)) then ((c309 (y.2.1, (y.2.2.1, ()))).bind fun r0 =>
   some ((((eqI (bAnd Go.IntKind.i64 y.2.2.2.1 (1 : Int)) (1 : Int)), r0.1), ()), ()))
  else some ((((eqI (bAnd Go.IntKind.i64 y.2.2.2.1 (1 : Int)) (1 : Int)), y.1.2), ()), ())
noncomputable def E269 (c309 : F309) := mkE [g309 c309]
theorem s269 (c309 : F309)  (y) : tevF (E269 c309 ) Tryz.f269 i269 o269 y = m269 c309  y := by kernel_rfl
noncomputable def r269 : F269 := m269 r309 
theorem k269 : CK Tryz.prog (g269 r269) := fn0 (s269 r309) (fnsL_ok ⟨k309, trivial⟩) rfl mixed (by kernel_rfl) (by kernel_rfl) (by kernel_rfl)
@[reducible] def i270 : List Ty := [.a q0, .a q1, .v (.int .i64), .v (.int .i64)]
@[reducible] def o270 : List Ty := [.a q7]
abbrev R270 := Option (PTup o270 × BTup i270)
abbrev F270 := PTup i270 → R270
abbrev g270 (c : F270) : Nat × Tev.Fn := (270, ⟨i270, o270, c, .nor⟩)
noncomputable def m270 (c262 : F262) (c137 : F137) (c191 : F191) (c133 : F133)  (y : PTup i270) : Option (PTup o270 × BTup i270) :=
  (c133 (y.2.1, ())).bind fun r0 => let X0 : R270 := (c262 y.2.2.2).bind fun r3 => bif (neI (lenI y.1.1) (0 : Int)) then (some (((r0.1.1.1, ((Int.tmod r3.1.1 (lenI y.1.1)), ())), ()), ())) else none; (c137 (y.1, (y.2.1, ()))).bind fun r1 => bif (!r1.1.1) then (some ((r0.1.1, ()), ())) else (c191 (y.2.2.1, ())).bind fun r2 => bif (eqI r2.1.1 (1 : Int)) then ((c262 y.2.2.2).bind fun r3 => bif (leI (0 : Int) r2.1.2.1) then (bif (ltI r2.1.2.1 (lenI r0.1.1.1)) then (some ((((List.set r0.1.1.1 (Int.toNat r2.1.2.1) r3.1.1), r0.1.1.2), ()), ())) else none) else none) else bif (eqI r2.1.1 (5 : Int)) then (bif (eqI r2.1.1 (5 : Int)) then X0 else some ((r0.1.1, ()), ())) else bif (eqI r2.1.1 (6 : Int)) then X0 else some ((r0.1.1, ()), ())
noncomputable def E270 (c262 : F262) (c137 : F137) (c191 : F191) (c133 : F133) := mkE [g262 c262, g137 c137, g191 c191, g133 c133]
theorem s270 (c262 : F262) (c137 : F137) (c191 : F191) (c133 : F133)  (y) : tevF (E270 c262 c137 c191 c133 ) Tryz.f270 i270 o270 y = m270 c262 c137 c191 c133  y := by kernel_rfl
noncomputable def r270 : F270 := m270 r262 r137 r191 r133 
theorem k270 : CK Tryz.prog (g270 r270) := fn0 (s270 r262 r137 r191 r133) (fnsL_ok ⟨k262, k137, k191, k133, trivial⟩) rfl mixed (by kernel_rfl) (by kernel_rfl) (by kernel_rfl)
@[reducible] def i293 : List Ty := [.a q14, .v (.int .i64), .v (.int .i64)]
@[reducible] def o293 : List Ty := [.a q14]
abbrev R293 := Option (PTup o293 × BTup i293)
abbrev F293 := PTup i293 → R293
abbrev g293 (c : F293) : Nat × Tev.Fn := (293, ⟨i293, o293, c, .nor⟩)
noncomputable def m293 (c215 : F215) (c269 : F269) (c270 : F270) (c213 : F213) (c191 : F191)  (y : PTup i293) : Option (PTup o293 × BTup i293) :=
  let a0 := y.1; let a1 := a0.2; let a2 := a1.2; let a3 := a2.2; let a4 := a3.2; let a5 := a4.2; let a6 := a5.2; let a7 := a6.2; let a8 := a7.2; let a9 := a8.2; let a10 := a9.2; let a11 := a10.2; let a12 := a11.2; let a13 := a12.2; let a14 := a13.2; let a15 := a14.2; let a16 := a15.2; let a17 := a16.2; let a18 := a17.2; let a19 := a18.2; let a20 := a19.2; let a21 := a20.2; let a22 := a21.2; let a23 := a22.2; let a24 := a23.2; let a25 := a24.2.2; (c191 (y.2.1, ())).bind fun r0 =>
  bif (eqI r0.1.1 (2 : Int)) then ((c213 ((a12.1, (a13.1, (a14.1, (a15.1, (a16.1, (a17.1, (a18.1, (a19.1, ())))))))), (r0.1.2.1, y.2.2))).bind fun r1 =>
   some (((a0.1, (a1.1, (a2.1, (a3.1, (a4.1, (a5.1, (a6.1, (a7.1, (a8.1, (a9.1, (a10.1, (a11.1, (r1.1.1.1, (r1.1.1.2.1, (r1.1.1.2.2.1, (r1.1.1.2.2.2.1, (r1.1.1.2.2.2.2.1, (r1.1.1.2.2.2.2.2.1, (r1.1.1.2.2.2.2.2.2.1, (r1.1.1.2.2.2.2.2.2.2.1, a20)))))))))))))))))))), ()), ()))
  else bif (eqI r0.1.1 (3 : Int)) then ((c215 ((a20.1, (a21.1, (a22.1, (a23.1, (a24.1, (a24.2.1, (a25.1, ()))))))), (r0.1.2.1, y.2.2))).bind fun r1 =>
   some (((a0.1, (a1.1, (a2.1, (a3.1, (a4.1, (a5.1, (a6.1, (a7.1, (a8.1, (a9.1, (a10.1, (a11.1, (a12.1, (a13.1, (a14.1, (a15.1, (a16.1, (a17.1, (a18.1, (a19.1, (r1.1.1.1, (r1.1.1.2.1, (r1.1.1.2.2.1, (r1.1.1.2.2.2.1, (r1.1.1.2.2.2.2.1, (r1.1.1.2.2.2.2.2.1, (r1.1.1.2.2.2.2.2.2.1, a25.2))))))))))))))))))))))))))), ()), ()))
  else bif (eqI r0.1.1 (4 : Int)) then ((c269 ((a25.2.1, (a25.2.2.1, ())), (a1.1, (a12.1, y.2.2)))).bind fun r1 =>
   some (((a0.1, (a1.1, (a2.1, (a3.1, (a4.1, (a5.1, (a6.1, (a7.1, (a8.1, (a9.1, (a10.1, (a11.1, (a12.1, (a13.1, (a14.1, (a15.1, (a16.1, (a17.1, (a18.1, (a19.1, (a20.1, (a21.1, (a22.1, (a23.1, (a24.1, (a24.2.1, (a25.1, (r1.1.1.1, (r1.1.1.2.1, a25.2.2.2))))))))))))))))))))))))))))), ()), ()))
  else (c270 ((a0.1, ()), ((a2.1, (a3.1, ())), y.2))).bind fun r1 =>
  some (((a0.1, (a1.1, (r1.1.1.1, (r1.1.1.2.1, a4)))), ()), ())
noncomputable def E293 (c215 : F215) (c269 : F269) (c270 : F270) (c213 : F213) (c191 : F191) := mkE [g215 c215, g269 c269, g270 c270, g213 c213, g191 c191]
theorem s293 (c215 : F215) (c269 : F269) (c270 : F270) (c213 : F213) (c191 : F191)  (y) : tevF (E293 c215 c269 c270 c213 c191 ) Tryz.f293 i293 o293 y = m293 c215 c269 c270 c213 c191  y := by kernel_rfl
noncomputable def r293 : F293 := m293 r215 r269 r270 r213 r191 
theorem k293 : CK Tryz.prog (g293 r293) := fn0 (s293 r215 r269 r270 r213 r191) (fnsL_ok ⟨k215, k269, k270, k213, k191, trivial⟩) rfl mixed (by kernel_rfl) (by kernel_rfl) (by kernel_rfl)
@[reducible] def i312 : List Ty := [.v (.int .i64)]
@[reducible] def o312 : List Ty := [.v (.bool), .v (.bool)]
abbrev R312 := Option (PTup o312 × BTup i312)
abbrev F312 := PTup i312 → R312
abbrev g312 (c : F312) : Nat × Tev.Fn := (312, ⟨i312, o312, c, .nor⟩)
noncomputable def m312 (c262 : F262)  (y : PTup i312) : Option (PTup o312 × BTup i312) :=
  (c262 y).bind fun r0 =>
  (c262 y).bind fun r1 =>
  some (((eqI r0.1.1 (0 : Int)), ((ltI (127 : Int) r1.1.1), ())), ())
noncomputable def E312 (c262 : F262) := mkE [g262 c262]
theorem s312 (c262 : F262)  (y) : tevF (E312 c262 ) Tryz.f312 i312 o312 y = m312 c262  y := by kernel_rfl
noncomputable def r312 : F312 := m312 r262 
theorem k312 : CK Tryz.prog (g312 r312) := fn0 (s312 r262) (fnsL_ok ⟨k262, trivial⟩) rfl mixed (by kernel_rfl) (by kernel_rfl) (by kernel_rfl)
@[reducible] def i274 : List Ty := [.a q8, .v (.int .i64)]
@[reducible] def o274 : List Ty := [.a q8]
abbrev R274 := Option (PTup o274 × BTup i274)
abbrev F274 := PTup i274 → R274
abbrev g274 (c : F274) : Nat × Tev.Fn := (274, ⟨i274, o274, c, .nor⟩)
noncomputable def m274 (c262 : F262) (c312 : F312)  (y : PTup i274) : Option (PTup o274 × BTup i274) :=
  (c262 y.2).bind fun r0 =>
  (c312 y.2).bind fun r1 =>
  some (((r0.1.1, (y.1.2.1, (y.1.2.2.1, (y.1.2.2.2.1, (r1.1.1, (r1.1.2.1, y.1.2.2.2.2.2.2)))))), ()), ())
noncomputable def E274 (c262 : F262) (c312 : F312) := mkE [g262 c262, g312 c312]
theorem s274 (c262 : F262) (c312 : F312)  (y) : tevF (E274 c262 c312 ) Tryz.f274 i274 o274 y = m274 c262 c312  y := by kernel_rfl
noncomputable def r274 : F274 := m274 r262 r312 
theorem k274 : CK Tryz.prog (g274 r274) := fn0 (s274 r262 r312) (fnsL_ok ⟨k262, k312, trivial⟩) rfl mixed (by kernel_rfl) (by kernel_rfl) (by kernel_rfl)
@[reducible] def i327 : List Ty := [.v (.int .i64), .v (.int .i64), .v (.bool)]
@[reducible] def o327 : List Ty := [.v (.int .i64), .v (.bool)]
abbrev R327 := Option (PTup o327 × BTup i327)
abbrev F327 := PTup i327 → R327
abbrev g327 (c : F327) : Nat × Tev.Fn := (327, ⟨i327, o327, c, .nor⟩)
noncomputable def m327 (c262 : F262) (c114 : F114)  (y : PTup i327) : Option (PTup o327 × BTup i327) :=
  (c262 (y.1, ())).bind fun r0 =>
  (c262 (y.2.1, ())).bind fun r1 =>
  (c114 y.2.2).bind fun r2 =>
  (c262 ((wI ((wI (r0.1.1 + r1.1.1)) + r2.1.1)), ())).bind fun r3 =>
  some ((r3.1.1, ((ltI (255 : Int) (wI ((wI (r0.1.1 + r1.1.1)) + r2.1.1))), ())), ())
noncomputable def E327 (c262 : F262) (c114 : F114) := mkE [g262 c262, g114 c114]
theorem s327 (c262 : F262) (c114 : F114)  (y) : tevF (E327 c262 c114 ) Tryz.f327 i327 o327 y = m327 c262 c114  y := by kernel_rfl
noncomputable def r327 : F327 := m327 r262 r114 
theorem k327 : CK Tryz.prog (g327 r327) := fn0 (s327 r262 r114) (fnsL_ok ⟨k262, k114, trivial⟩) rfl mixed (by kernel_rfl) (by kernel_rfl) (by kernel_rfl)
@[reducible] def i310 : List Ty := [.a q8, .v (.int .i64)]
@[reducible] def o310 : List Ty := [.a q8]
abbrev R310 := Option (PTup o310 × BTup i310)
abbrev F310 := PTup i310 → R310
abbrev g310 (c : F310) : Nat × Tev.Fn := (310, ⟨i310, o310, c, .nor⟩)
noncomputable def m310 (c327 : F327) (c274 : F274)  (y : PTup i310) : Option (PTup o310 × BTup i310) :=
  (c327 (y.1.1, (y.2.1, (y.1.2.2.2.2.2.2.1, ())))).bind fun r0 =>
  (c274 (y.1, (r0.1.1, ()))).bind fun r1 =>
  some (((r1.1.1.1, (r1.1.1.2.1, (r1.1.1.2.2.1, (r1.1.1.2.2.2.1, (r1.1.1.2.2.2.2.1, (r1.1.1.2.2.2.2.2.1, (r0.1.2.1, r1.1.1.2.2.2.2.2.2.2))))))), ()), ())
noncomputable def E310 (c327 : F327) (c274 : F274) := mkE [g327 c327, g274 c274]
theorem s310 (c327 : F327) (c274 : F274)  (y) : tevF (E310 c327 c274 ) Tryz.f310 i310 o310 y = m310 c327 c274  y := by kernel_rfl
noncomputable def r310 : F310 := m310 r327 r274 
theorem k310 : CK Tryz.prog (g310 r310) := fn0 (s310 r327 r274) (fnsL_ok ⟨k327, k274, trivial⟩) rfl mixed (by kernel_rfl) (by kernel_rfl) (by kernel_rfl)
@[reducible] def i311 : List Ty := [.v (.int .i64), .v (.int .i64), .v (.bool)]
@[reducible] def o311 : List Ty := [.v (.int .i64), .v (.bool)]
abbrev R311 := Option (PTup o311 × BTup i311)
abbrev F311 := PTup i311 → R311
abbrev g311 (c : F311) : Nat × Tev.Fn := (311, ⟨i311, o311, c, .nor⟩)
noncomputable def m311 (c262 : F262) (c114 : F114)  (y : PTup i311) : Option (PTup o311 × BTup i311) :=
  (c262 (y.1, ())).bind fun r0 =>
  (c262 (y.2.1, ())).bind fun r1 =>
  (c114 y.2.2).bind fun r2 =>
  (c262 ((wI ((wI ((wI (r0.1.1 - r1.1.1)) - (1 : Int))) + r2.1.1)), ())).bind fun r3 =>
  some ((r3.1.1, ((leI (0 : Int) (wI ((wI ((wI (r0.1.1 - r1.1.1)) - (1 : Int))) + r2.1.1))), ())), ())
noncomputable def E311 (c262 : F262) (c114 : F114) := mkE [g262 c262, g114 c114]
theorem s311 (c262 : F262) (c114 : F114)  (y) : tevF (E311 c262 c114 ) Tryz.f311 i311 o311 y = m311 c262 c114  y := by kernel_rfl
noncomputable def r311 : F311 := m311 r262 r114 
theorem k311 : CK Tryz.prog (g311 r311) := fn0 (s311 r262 r114) (fnsL_ok ⟨k262, k114, trivial⟩) rfl mixed (by kernel_rfl) (by kernel_rfl) (by kernel_rfl)
@[reducible] def i313 : List Ty := [.a q8, .v (.int .i64)]
@[reducible] def o313 : List Ty := [.a q8]
abbrev R313 := Option (PTup o313 × BTup i313)
abbrev F313 := PTup i313 → R313
abbrev g313 (c : F313) : Nat × Tev.Fn := (313, ⟨i313, o313, c, .nor⟩)
noncomputable def m313 (c262 : F262) (c312 : F312)  (y : PTup i313) : Option (PTup o313 × BTup i313) :=
  (c262 y.2).bind fun r0 =>
  (c312 y.2).bind fun r1 =>
  some (((y.1.1, (r0.1.1, (y.1.2.2.1, (y.1.2.2.2.1, (r1.1.1, (r1.1.2.1, y.1.2.2.2.2.2.2)))))), ()), ())
noncomputable def E313 (c262 : F262) (c312 : F312) := mkE [g262 c262, g312 c312]
theorem s313 (c262 : F262) (c312 : F312)  (y) : tevF (E313 c262 c312 ) Tryz.f313 i313 o313 y = m313 c262 c312  y := by kernel_rfl
noncomputable def r313 : F313 := m313 r262 r312 
theorem k313 : CK Tryz.prog (g313 r313) := fn0 (s313 r262 r312) (fnsL_ok ⟨k262, k312, trivial⟩) rfl mixed (by kernel_rfl) (by kernel_rfl) (by kernel_rfl)
@[reducible] def i271 : List Ty := [.a q8, .a q15, .v (.int .i64)]
@[reducible] def o271 : List Ty := [.a q8, .v (.bool)]
abbrev R271 := Option (PTup o271 × BTup i271)
abbrev F271 := PTup i271 → R271
abbrev g271 (c : F271) : Nat × Tev.Fn := (271, ⟨i271, o271, c, .nor⟩)
noncomputable def m271 (c262 : F262) (c274 : F274) (c313 : F313) (c312 : F312) (c311 : F311) (c310 : F310)  (y : PTup i271) : Option (PTup o271 × BTup i271) :=
  let X0 : R271 := bif (eqI y.2.1.1 (4 : Int)) then ((c310 (y.1, y.2.1.2)).bind fun r0 => some ((r0.1.1, (true, ())), ())) else bif (eqI y.2.1.1 (29 : Int)) then ((c310 (y.1, y.2.2)).bind fun r0 => some ((r0.1.1, (true, ())), ())) else bif (eqI y.2.1.1 (5 : Int)) then ((c311 (y.1.1, (y.2.1.2.1, (y.1.2.2.2.2.2.2.1, ())))).bind fun r0 => (c274 (y.1, (r0.1.1, ()))).bind fun r1 => some (((r1.1.1.1, (r1.1.1.2.1, (r1.1.1.2.2.1, (r1.1.1.2.2.2.1, (r1.1.1.2.2.2.2.1, (r1.1.1.2.2.2.2.2.1, (r0.1.2.1, r1.1.1.2.2.2.2.2.2.2))))))), (true, ())), ())) else bif (eqI y.2.1.1 (6 : Int)) then ((c262 (y.1.1, ())).bind fun r0 => (c262 y.2.1.2).bind fun r1 => (c274 (y.1, ((bAnd Go.IntKind.i64 r0.1.1 r1.1.1), ()))).bind fun r2 => some ((r2.1.1, (true, ())), ())) else bif (eqI y.2.1.1 (7 : Int)) then ((c262 (y.1.1, ())).bind fun r0 => (c262 y.2.1.2).bind fun r1 => (c274 (y.1, ((bOr Go.IntKind.i64 r0.1.1 r1.1.1), ()))).bind fun r2 => some ((r2.1.1, (true, ())), ())) else bif (eqI y.2.1.1 (8 : Int)) then ((c262 (y.1.1, ())).bind fun r0 => (c262 y.2.1.2).bind fun r1 => (c274 (y.1, ((bXor Go.IntKind.i64 r0.1.1 r1.1.1), ()))).bind fun r2 => some ((r2.1.1, (true, ())), ())) else bif (eqI y.2.1.1 (9 : Int)) then ((c262 (y.1.1, ())).bind fun r0 => (c262 y.2.1.2).bind fun r1 => (c312 ((wI (r0.1.1 - r1.1.1)), ())).bind fun r2 => (c262 (y.1.1, ())).bind fun r3 => (c262 y.2.1.2).bind fun r4 => some (((y.1.1, (y.1.2.1, (y.1.2.2.1, (y.1.2.2.2.1, (r2.1.1, (r2.1.2.1, ((leI r4.1.1 r3.1.1), y.1.2.2.2.2.2.2.2))))))), (true, ())), ())) else bif (eqI y.2.1.1 (10 : Int)) then ((c313 (y.1, (y.1.1, ()))).bind fun r0 => some ((r0.1.1, (true, ())), ())) else bif (eqI y.2.1.1 (11 : Int)) then ((c274 (y.1, (y.1.2.1, ()))).bind fun r0 => some ((r0.1.1, (true, ())), ())) else bif (eqI y.2.1.1 (12 : Int)) then ((c262 (y.1.2.1, ())).bind fun r0 => (c313 (y.1, ((wI (r0.1.1 + (1 : Int))), ()))).bind fun r1 => some ((r1.1.1, (true, ())), ())) else bif (eqI y.2.1.1 (13 : Int)) then ((c262 (y.1.2.1, ())).bind fun r0 => (c313 (y.1, ((wI (r0.1.1 - (1 : Int))), ()))).bind fun r1 => some ((r1.1.1, (true, ())), ())) else some ((y.1, (false, ())), ()); bif (eqI y.2.1.1 (1 : Int)) then ((c274 (y.1, y.2.1.2)).bind fun r0 => some ((r0.1.1, (true, ())), ())) else bif (eqI y.2.1.1 (2 : Int)) then (bif (eqI y.2.1.1 (2 : Int)) then ((c274 (y.1, y.2.2)).bind fun r0 => some ((r0.1.1, (true, ())), ())) else X0) else bif (eqI y.2.1.1 (14 : Int)) then ((c274 (y.1, y.2.2)).bind fun r0 => some ((r0.1.1, (true, ())), ())) else X0
noncomputable def E271 (c262 : F262) (c274 : F274) (c313 : F313) (c312 : F312) (c311 : F311) (c310 : F310) := mkE [g262 c262, g274 c274, g313 c313, g312 c312, g311 c311, g310 c310]
theorem s271 (c262 : F262) (c274 : F274) (c313 : F313) (c312 : F312) (c311 : F311) (c310 : F310)  (y) : tevF (E271 c262 c274 c313 c312 c311 c310 ) Tryz.f271 i271 o271 y = m271 c262 c274 c313 c312 c311 c310  y := by kernel_rfl
noncomputable def r271 : F271 := m271 r262 r274 r313 r312 r311 r310 
theorem k271 : CK Tryz.prog (g271 r271) := fn0 (s271 r262 r274 r313 r312 r311 r310) (fnsL_ok ⟨k262, k274, k313, k312, k311, k310, trivial⟩) rfl mixed (by kernel_rfl) (by kernel_rfl) (by kernel_rfl)
@[reducible] def i273 : List Ty := [.a q1, .a q8]
@[reducible] def o273 : List Ty := [.a q8, .v (.int .i64)]
abbrev R273 := Option (PTup o273 × BTup i273)
abbrev F273 := PTup i273 → R273
abbrev g273 (c : F273) : Nat × Tev.Fn := (273, ⟨i273, o273, c, .nor⟩)
noncomputable def m273 (c262 : F262)  (y : PTup i273) : Option (PTup o273 × BTup i273) :=
  bif (neI (lenI y.1.1) (512 : Int)) then (some ((y.2.1, ((0 : Int), ())), ()))
  else (c262 ((wI (y.2.1.2.2.1 + (1 : Int))), ())).bind fun r0 =>
  bif (leI (0 : Int) (wI ((256 : Int) + r0.1.1))) then (bif (ltI (wI ((256 : Int) + r0.1.1)) (lenI y.1.1)) then ((c262 ((rdE .i y.1.1 (wI ((256 : Int) + r0.1.1))), ())).bind fun r1 =>
    some (((y.2.1.1, (y.2.1.2.1, (r0.1.1, y.2.1.2.2.2))), r1.1), ()))
   else none)
  else none
noncomputable def E273 (c262 : F262) := mkE [g262 c262]
theorem s273 (c262 : F262)  (y) : tevF (E273 c262 ) Tryz.f273 i273 o273 y = m273 c262  y := by kernel_rfl
noncomputable def r273 : F273 := m273 r262 
theorem k273 : CK Tryz.prog (g273 r273) := fn0 (s273 r262) (fnsL_ok ⟨k262, trivial⟩) rfl mixed (by kernel_rfl) (by kernel_rfl) (by kernel_rfl)
@[reducible] def i272 : List Ty := [.a q1, .a q8]
@[reducible] def o272 : List Ty := [.a q8]
abbrev R272 := Option (PTup o272 × BTup i272)
abbrev F272 := PTup i272 → R272
abbrev g272 (c : F272) : Nat × Tev.Fn := (272, ⟨i272, o272, c, .nor⟩)
noncomputable def m272 (c259 : F259) (c273 : F273)  (y : PTup i272) : Option (PTup o272 × BTup i272) :=
  (c273 (y.1, (y.2.1, ()))).bind fun r0 =>
  (c273 (y.1, (r0.1.1, ()))).bind fun r1 =>
  (c259 (r0.1.2.1, r1.1.2)).bind fun r2 =>
  some (((r1.1.1.1, (r1.1.1.2.1, (r1.1.1.2.2.1, (r2.1.1, r1.1.1.2.2.2.2)))), ()), ())
noncomputable def E272 (c259 : F259) (c273 : F273) := mkE [g259 c259, g273 c273]
theorem s272 (c259 : F259) (c273 : F273)  (y) : tevF (E272 c259 c273 ) Tryz.f272 i272 o272 y = m272 c259 c273  y := by kernel_rfl
noncomputable def r272 : F272 := m272 r259 r273 
theorem k272 : CK Tryz.prog (g272 r272) := fn0 (s272 r259 r273) (fnsL_ok ⟨k259, k273, trivial⟩) rfl mixed (by kernel_rfl) (by kernel_rfl) (by kernel_rfl)
@[reducible] def i275 : List Ty := [.a q8, .v (.int .i64)]
@[reducible] def o275 : List Ty := [.a q8]
abbrev R275 := Option (PTup o275 × BTup i275)
abbrev F275 := PTup i275 → R275
abbrev g275 (c : F275) : Nat × Tev.Fn := (275, ⟨i275, o275, c, .nor⟩)
noncomputable def m275   (y : PTup i275) : Option (PTup o275 × BTup i275) :=
  some (((y.1.1, (y.1.2.1, (y.1.2.2.1, (y.1.2.2.2.1, ((neI (bAnd Go.IntKind.i64 y.2.1 (2 : Int)) (0 : Int)), ((neI (bAnd Go.IntKind.i64 y.2.1 (128 : Int)) (0 : Int)), ((neI (bAnd Go.IntKind.i64 y.2.1 (1 : Int)) (0 : Int)), ((neI (bAnd Go.IntKind.i64 y.2.1 (4 : Int)) (0 : Int)), ())))))))), ()), ())
noncomputable def E275  := mkE []
theorem s275   (y) : tevF (E275  ) Tryz.f275 i275 o275 y = m275   y := by kernel_rfl
noncomputable def r275 : F275 := m275  
theorem k275 : CK Tryz.prog (g275 r275) := fn0 (s275 ) (fnsL_ok trivial) rfl mixed (by kernel_rfl) (by kernel_rfl) (by kernel_rfl)
@[reducible] def i198 : List Ty := [.a q1, .a q8, .a q15, .v (.int .i64)]
@[reducible] def o198 : List Ty := [.a q7, .a q8]
abbrev R198 := Option (PTup o198 × BTup i198)
abbrev F198 := PTup i198 → R198
abbrev g198 (c : F198) : Nat × Tev.Fn := (198, ⟨i198, o198, c, .nor⟩)
noncomputable def m198 (c261 : F261) (c258 : F258) (c273 : F273) (c264 : F264) (c274 : F274) (c275 : F275) (c133 : F133) (c271 : F271) (c272 : F272)  (y : PTup i198) : Option (PTup o198 × BTup i198) :=
  let a0 := y.2; let a1 := a0.1; let a2 := a0.2; let a3 := a1.1; let a4 := a1.2; let a5 := a2.1; let a6 := a4.1; let a7 := a4.2; let a8 := a5.1; let a9 := a7.1; let a10 := a7.2; let a11 := a10.2; let a12 := a11.2; (c133 (y.1, ())).bind fun r0 => let X0 : R198 := (c261 a5.2).bind fun r4 => some ((r0.1.1, ((a3, (a6, (a9, (r4.1.1, a11)))), ())), ()); (c258 (a8, ())).bind fun r1 => (c261 ((wI (a10.1 + r1.1.1)), ())).bind fun r2 => let X1 : R198 := bif (eqI a8 (20 : Int)) then ((c264 (r0.1.1, ((a3, (a6, (a9, (r2.1.1, a11)))), ((Int.fdiv r2.1.1 ((2 : Int) ^ (Min.min (Int.toNat (8 : Int)) (64 : Nat)))), ())))).bind fun r4 => (c264 (r4.1.1, (r4.1.2.1, (r4.1.2.1.2.2.2.1, ())))).bind fun r5 => (c261 a5.2).bind fun r6 => some ((r5.1.1, ((r5.1.2.1.1, (r5.1.2.1.2.1, (r5.1.2.1.2.2.1, (r6.1.1, r5.1.2.1.2.2.2.2)))), ())), ())) else bif (eqI a8 (21 : Int)) then ((c272 (y.1, ((a3, (a6, (a9, (r2.1.1, a11)))), ()))).bind fun r4 => some ((r0.1.1, (r4.1.1, ())), ())) else bif (eqI a8 (22 : Int)) then ((c264 (r0.1.1, ((a3, (a6, (a9, (r2.1.1, a11)))), (a3, ())))).bind fun r4 => some ((r4.1.1, (r4.1.2.1, ())), ())) else bif (eqI a8 (23 : Int)) then ((c273 (y.1, ((a3, (a6, (a9, (r2.1.1, a11)))), ()))).bind fun r4 => (c274 r4.1).bind fun r5 => some ((r0.1.1, (r5.1.1, ())), ())) else bif (eqI a8 (24 : Int)) then ((c273 (y.1, ((a3, (a6, (a9, (r2.1.1, a11)))), ()))).bind fun r4 => (c275 r4.1).bind fun r5 => (c272 (y.1, (r5.1.1, ()))).bind fun r6 => some ((r0.1.1, (r6.1.1, ())), ())) else bif (eqI a8 (25 : Int)) then (bif (eqI a8 (25 : Int)) then (some ((r0.1.1, ((a3, (a6, (a9, (r2.1.1, (a11.1, (a12.1, (a12.2.1, ((eqI a8 (25 : Int)), ())))))))), ())), ())) else bif (eqI a8 (27 : Int)) then (bif (eqI a8 (27 : Int)) then (some ((r0.1.1, ((a3, (a6, (a9, (r2.1.1, (a11.1, (a12.1, ((eqI a8 (27 : Int)), a12.2.2))))))), ())), ())) else some ((r0.1.1, ((a3, (a6, (a9, (r2.1.1, a11)))), ())), ())) else bif (eqI a8 (28 : Int)) then (some ((r0.1.1, ((a3, (a6, (a9, (r2.1.1, (a11.1, (a12.1, ((eqI a8 (27 : Int)), a12.2.2))))))), ())), ())) else some ((r0.1.1, ((a3, (a6, (a9, (r2.1.1, a11)))), ())), ())) else bif (eqI a8 (26 : Int)) then (some ((r0.1.1, ((a3, (a6, (a9, (r2.1.1, (a11.1, (a12.1, (a12.2.1, ((eqI a8 (25 : Int)), ())))))))), ())), ())) else bif (eqI a8 (27 : Int)) then (bif (eqI a8 (27 : Int)) then (some ((r0.1.1, ((a3, (a6, (a9, (r2.1.1, (a11.1, (a12.1, ((eqI a8 (27 : Int)), a12.2.2))))))), ())), ())) else some ((r0.1.1, ((a3, (a6, (a9, (r2.1.1, a11)))), ())), ())) else bif (eqI a8 (28 : Int)) then (some ((r0.1.1, ((a3, (a6, (a9, (r2.1.1, (a11.1, (a12.1, ((eqI a8 (27 : Int)), a12.2.2))))))), ())), ())) else some ((r0.1.1, ((a3, (a6, (a9, (r2.1.1, a11)))), ())), ()); let X2 : R198 := bif (eqI a8 (17 : Int)) then (bif a11.1 then X0 else bif (eqI a8 (18 : Int)) then (bif a12.2.1 then X0 else bif (eqI a8 (19 : Int)) then X0 else some ((r0.1.1, ((a3, (a6, (a9, (r2.1.1, a11)))), ())), ())) else bif (eqI a8 (19 : Int)) then X0 else some ((r0.1.1, ((a3, (a6, (a9, (r2.1.1, a11)))), ())), ())) else bif (eqI a8 (18 : Int)) then (bif a12.2.1 then X0 else bif (eqI a8 (19 : Int)) then X0 else some ((r0.1.1, ((a3, (a6, (a9, (r2.1.1, a11)))), ())), ())) else bif (eqI a8 (19 : Int)) then X0 else some ((r0.1.1, ((a3, (a6, (a9, (r2.1.1, a11)))), ())), ()); let X3 : R198 := bif (eqI a8 (16 : Int)) then (bif (!a11.1) then X0 else X2) else X2; (c271 ((a3, (a6, (a9, (r2.1.1, a11)))), a2)).bind fun r3 => bif r3.1.2.1 then (some ((r0.1.1, (r3.1.1, ())), ())) else bif (eqI a8 (16 : Int)) then (bif (eqI a8 (16 : Int)) then X3 else X1) else bif (eqI a8 (17 : Int)) then (bif (eqI a8 (17 : Int)) then X3 else X1) else bif (eqI a8 (18 : Int)) then (bif (eqI a8 (18 : Int)) then X3 else X1) else bif (eqI a8 (19 : Int)) then X3 else X1
noncomputable def E198 (c261 : F261) (c258 : F258) (c273 : F273) (c264 : F264) (c274 : F274) (c275 : F275) (c133 : F133) (c271 : F271) (c272 : F272) := mkE [g261 c261, g258 c258, g273 c273, g264 c264, g274 c274, g275 c275, g133 c133, g271 c271, g272 c272]
theorem s198 (c261 : F261) (c258 : F258) (c273 : F273) (c264 : F264) (c274 : F274) (c275 : F275) (c133 : F133) (c271 : F271) (c272 : F272)  (y) : tevF (E198 c261 c258 c273 c264 c274 c275 c133 c271 c272 ) Tryz.f198 i198 o198 y = m198 c261 c258 c273 c264 c274 c275 c133 c271 c272  y := by kernel_rfl
noncomputable def r198 : F198 := m198 r261 r258 r273 r264 r274 r275 r133 r271 r272 
theorem k198 : CK Tryz.prog (g198 r198) := fn0 (s198 r261 r258 r273 r264 r274 r275 r133 r271 r272) (fnsL_ok ⟨k261, k258, k273, k264, k274, k275, k133, k271, k272, trivial⟩) rfl mixed (by kernel_rfl) (by kernel_rfl) (by kernel_rfl)
@[reducible] def i193 : List Ty := [.v (.int .i64)]
@[reducible] def o193 : List Ty := [.v (.int .i64)]
abbrev R193 := Option (PTup o193 × BTup i193)
abbrev F193 := PTup i193 → R193
abbrev g193 (c : F193) : Nat × Tev.Fn := (193, ⟨i193, o193, c, .nor⟩)
noncomputable def m193 (c142 : F142)  (y : PTup i193) : Option (PTup o193 × BTup i193) :=
  (c142 (y.1, ((0 : Int), ((29 : Int), ())))).bind fun r0 =>
  bif (!r0.1.1) then (some (((2 : Int), ()), ()))
  else bif (leI (0 : Int) y.1) then (bif (ltI y.1 (lenI ((2 : Int) :: ((2 : Int) :: ((4 : Int) :: ((4 : Int) :: ((2 : Int) :: ((2 : Int) :: ((2 : Int) :: ((2 : Int) :: ((2 : Int) :: ((2 : Int) :: ((2 : Int) :: ((2 : Int) :: ((2 : Int) :: ((2 : Int) :: ((4 : Int) :: ((5 : Int) :: ((3 : Int) :: ((3 : Int) :: ((3 : Int) :: ((3 : Int) :: ((6 : Int) :: ((6 : Int) :: ((3 : Int) :: ((4 : Int) :: ((6 : Int) :: ((2 : Int) :: ((2 : Int) :: ((2 : Int) :: ((2 : Int) :: ((4 : Int) :: [])))))))))))))))))))))))))))))))) then (some (((rdE .i ((2 : Int) :: ((2 : Int) :: ((4 : Int) :: ((4 : Int) :: ((2 : Int) :: ((2 : Int) :: ((2 : Int) :: ((2 : Int) :: ((2 : Int) :: ((2 : Int) :: ((2 : Int) :: ((2 : Int) :: ((2 : Int) :: ((2 : Int) :: ((4 : Int) :: ((5 : Int) :: ((3 : Int) :: ((3 : Int) :: ((3 : Int) :: ((3 : Int) :: ((6 : Int) :: ((6 : Int) :: ((3 : Int) :: ((4 : Int) :: ((6 : Int) :: ((2 : Int) :: ((2 : Int) :: ((2 : Int) :: ((2 : Int) :: ((4 : Int) :: [])))))))))))))))))))))))))))))) y.1), ()), ()))
   else none)
  else none
noncomputable def E193 (c142 : F142) := mkE [g142 c142]
theorem s193 (c142 : F142)  (y) : tevF (E193 c142 ) Tryz.f193 i193 o193 y = m193 c142  y := by kernel_rfl
noncomputable def r193 : F193 := m193 r142 
theorem k193 : CK Tryz.prog (g193 r193) := fn0 (s193 r142) (fnsL_ok ⟨k142, trivial⟩) rfl mixed (by kernel_rfl) (by kernel_rfl) (by kernel_rfl)
@[reducible] def i243 : List Ty := [.a q14]
@[reducible] def o243 : List Ty := [.a q14, .v (.int .i64)]
abbrev R243 := Option (PTup o243 × BTup i243)
abbrev F243 := PTup i243 → R243
abbrev g243 (c : F243) : Nat × Tev.Fn := (243, ⟨i243, o243, c, .nor⟩)
noncomputable def m243 (c190 : F190) (c194 : F194) (c198 : F198) (c189 : F189) (c193 : F193) (c292 : F292) (c293 : F293)  (y : PTup i243) : Option (PTup o243 × BTup i243) :=
  let a0 := y.1; let a1 := a0.2; let a2 := a1.2; let a3 := a2.2; let a4 := a3.2; let a5 := a4.2; let a6 := a5.2; let a7 := a6.2; let a8 := a7.2; let a9 := a8.2; let a10 := a9.2; let a11 := a10.2; let a12 := a11.2; let a13 := a12.2; let a14 := a13.2; let a15 := a14.2; let a16 := a15.2; let a17 := a16.2; let a18 := a17.2; let a19 := a18.2; let a20 := a19.2; let a21 := a20.2; let a22 := a21.2; let a23 := a22.2.2; let a24 := a23.2.2; let X0 : R243 := (c189 ((a0.1, ()), ((a2.1, (a3.1, ())), (a7.1, ())))).bind fun r0 => (c190 (r0.1.1, ((a4.1, (a5.1, (a6.1, (a7.1, (a8.1, (a9.1, (a10.1, (a11.1, ())))))))), ()))).bind fun r1 => bif (eqI r1.1.1 (1 : Int)) then ((c292 (a0, (r1.1.2.1, ()))).bind fun r2 => (c198 ((r2.1.1.2.2.1, (r2.1.1.2.2.2.1, ())), ((r2.1.1.2.2.2.2.1, (r2.1.1.2.2.2.2.2.1, (r2.1.1.2.2.2.2.2.2.1, (r2.1.1.2.2.2.2.2.2.2.1, (r2.1.1.2.2.2.2.2.2.2.2.1, (r2.1.1.2.2.2.2.2.2.2.2.2.1, (r2.1.1.2.2.2.2.2.2.2.2.2.2.1, (r2.1.1.2.2.2.2.2.2.2.2.2.2.2.1, ())))))))), (r0.1.1, r2.1.2)))).bind fun r3 => (c193 (r0.1.1.1, ())).bind fun r4 => some (((r2.1.1.1, (r2.1.1.2.1, (r3.1.1.1, (r3.1.1.2.1, (r3.1.2.1.1, (r3.1.2.1.2.1, (r3.1.2.1.2.2.1, (r3.1.2.1.2.2.2.1, (r3.1.2.1.2.2.2.2.1, (r3.1.2.1.2.2.2.2.2.1, (r3.1.2.1.2.2.2.2.2.2.1, (r3.1.2.1.2.2.2.2.2.2.2.1, r2.1.1.2.2.2.2.2.2.2.2.2.2.2.2)))))))))))), r4.1), ())) else bif (eqI r1.1.1 (2 : Int)) then ((c293 (a0, r1.1.2)).bind fun r2 => (c198 ((r2.1.1.2.2.1, (r2.1.1.2.2.2.1, ())), ((r2.1.1.2.2.2.2.1, (r2.1.1.2.2.2.2.2.1, (r2.1.1.2.2.2.2.2.2.1, (r2.1.1.2.2.2.2.2.2.2.1, (r2.1.1.2.2.2.2.2.2.2.2.1, (r2.1.1.2.2.2.2.2.2.2.2.2.1, (r2.1.1.2.2.2.2.2.2.2.2.2.2.1, (r2.1.1.2.2.2.2.2.2.2.2.2.2.2.1, ())))))))), (r0.1.1, ((0 : Int), ()))))).bind fun r3 => (c193 (r0.1.1.1, ())).bind fun r4 => some (((r2.1.1.1, (r2.1.1.2.1, (r3.1.1.1, (r3.1.1.2.1, (r3.1.2.1.1, (r3.1.2.1.2.1, (r3.1.2.1.2.2.1, (r3.1.2.1.2.2.2.1, (r3.1.2.1.2.2.2.2.1, (r3.1.2.1.2.2.2.2.2.1, (r3.1.2.1.2.2.2.2.2.2.1, (r3.1.2.1.2.2.2.2.2.2.2.1, r2.1.1.2.2.2.2.2.2.2.2.2.2.2.2)))))))))))), r4.1), ())) else (c198 ((a2.1, (a3.1, ())), ((a4.1, (a5.1, (a6.1, (a7.1, (a8.1, (a9.1, (a10.1, (a11.1, ())))))))), (r0.1.1, ((0 : Int), ()))))).bind fun r2 => (c193 (r0.1.1.1, ())).bind fun r3 => some (((a0.1, (a1.1, (r2.1.1.1, (r2.1.1.2.1, (r2.1.2.1.1, (r2.1.2.1.2.1, (r2.1.2.1.2.2.1, (r2.1.2.1.2.2.2.1, (r2.1.2.1.2.2.2.2.1, (r2.1.2.1.2.2.2.2.2.1, (r2.1.2.1.2.2.2.2.2.2.1, (r2.1.2.1.2.2.2.2.2.2.2.1, a12)))))))))))), r3.1), ()); bif a24.2.2.2.1 then ((c194 ((a0.1, ()), ((a2.1, (a3.1, ())), ((a4.1, (a5.1, (a6.1, (a7.1, (a8.1, (a9.1, (a10.1, (a11.1, ())))))))), ((65530 : Int), ()))))).bind fun r0 => some (((a0.1, (a1.1, (r0.1.1.1, (r0.1.1.2.1, (r0.1.2.1.1, (r0.1.2.1.2.1, (r0.1.2.1.2.2.1, (r0.1.2.1.2.2.2.1, (r0.1.2.1.2.2.2.2.1, (r0.1.2.1.2.2.2.2.2.1, (r0.1.2.1.2.2.2.2.2.2.1, (r0.1.2.1.2.2.2.2.2.2.2.1, (a12.1, (a13.1, (a14.1, (a15.1, (a16.1, (a17.1, (a18.1, (a19.1, (a20.1, (a21.1, (a22.1, (a22.2.1, (a23.1, (a23.2.1, (a24.1, (a24.2.1, (a24.2.2.1, (false, a24.2.2.2.2)))))))))))))))))))))))))))))), ((7 : Int), ())), ())) else bif a24.1 then (bif (!a11.1) then ((c194 ((a0.1, ()), ((a2.1, (a3.1, ())), ((a4.1, (a5.1, (a6.1, (a7.1, (a8.1, (a9.1, (a10.1, (a11.1, ())))))))), ((65534 : Int), ()))))).bind fun r0 => some (((a0.1, (a1.1, (r0.1.1.1, (r0.1.1.2.1, (r0.1.2.1.1, (r0.1.2.1.2.1, (r0.1.2.1.2.2.1, (r0.1.2.1.2.2.2.1, (r0.1.2.1.2.2.2.2.1, (r0.1.2.1.2.2.2.2.2.1, (r0.1.2.1.2.2.2.2.2.2.1, (r0.1.2.1.2.2.2.2.2.2.2.1, a12)))))))))))), ((7 : Int), ())), ())) else X0) else X0
noncomputable def E243 (c190 : F190) (c194 : F194) (c198 : F198) (c189 : F189) (c193 : F193) (c292 : F292) (c293 : F293) := mkE [g190 c190, g194 c194, g198 c198, g189 c189, g193 c193, g292 c292, g293 c293]
theorem s243 (c190 : F190) (c194 : F194) (c198 : F198) (c189 : F189) (c193 : F193) (c292 : F292) (c293 : F293)  (y) : tevF (E243 c190 c194 c198 c189 c193 c292 c293 ) Tryz.f243 i243 o243 y = m243 c190 c194 c198 c189 c193 c292 c293  y := by kernel_rfl
noncomputable def r243 : F243 := m243 r190 r194 r198 r189 r193 r292 r293 
theorem k243 : CK Tryz.prog (g243 r243) := fn0 (s243 r190 r194 r198 r189 r193 r292 r293) (fnsL_ok ⟨k190, k194, k198, k189, k193, k292, k293, trivial⟩) rfl mixed (by kernel_rfl) (by kernel_rfl) (by kernel_rfl)
@[reducible] def i244 : List Ty := [.a [.sl true .n, .sl true .i, .sl true .i, .int .i64, .int .i64, .int .i64, .int .i64, .int .i64, .bool, .bool, .bool, .bool, .int .i64, .int .i64, .int .i64, .int .i64, .int .i64, .bool, .sl false .i, .sl false .i, .int .i64, .int .i64, .int .i64, .int .i64, .int .i64, .bool, .bool, .bool, .int .i64, .bool, .int .i64, .sl true .n, .sl true .i, .sl true .i]]
@[reducible] def o244 : List Ty := [.a q14]
abbrev R244 := Option (PTup o244 × BTup i244)
abbrev F244 := PTup i244 → R244
abbrev g244 (c : F244) : Nat × Tev.Fn := (244, ⟨i244, o244, c, .nor⟩)
noncomputable def m244 (c216 : F216) (c214 : F214)  (y : PTup i244) : Option (PTup o244 × BTup i244) :=
  let a0 := y.1; let a1 := a0.2; let a2 := a1.2; let a3 := a2.2; let a4 := a3.2; let a5 := a4.2; let a6 := a5.2; let a7 := a6.2; let a8 := a7.2; let a9 := a8.2; let a10 := a9.2; let a11 := a10.2; let a12 := a11.2; let a13 := a12.2; let a14 := a13.2; let a15 := a14.2; let a16 := a15.2; let a17 := a16.2; let a18 := a17.2; let a19 := a18.2; let a20 := a19.2; let a21 := a20.2; let a22 := a21.2; let a23 := a22.2; let a24 := a23.2; let a25 := a24.2; let a26 := a25.2; let a27 := a26.2; let a28 := a27.2; let a29 := a28.2; let a30 := a29.2; let a31 := a30.2; let a32 := a31.2; (c214 ((a12.1, (a13.1, (a14.1, (a15.1, (a16.1, (a17.1, (a18.1, (a19.1, ())))))))), ())).bind fun r0 => let b0 := r0.1; let b1 := b0.1; let b2 := b0.2; let b3 := b1.2; let b4 := b3.2; let b5 := b4.2; let b6 := b5.2; let b7 := b6.2; let b8 := b7.2; let b9 := b8.2.1; (c216 ((a20.1, (a21.1, (a22.1, (a23.1, (a24.1, (a25.1, (a26.1, ()))))))), ())).bind fun r1 => let d0 := r1.1; let d1 := d0.1; let d2 := d1.2; let d3 := d0.2.1; let d4 := d2.2; let d5 := d4.2; let d6 := d5.2; let d7 := d6.2; let d8 := d7.2.1; bif (eqI (Int.tmod a12.1 (64 : Int)) (48 : Int)) then (bif (leN ((List.length a31.1) + (List.length (b2.1 :: []))) (E.most .n)) then (bif d0.2.2.1 then (bif (leN ((List.length a32.1) + (List.length (d3 :: []))) (E.most .i)) then (bif a29.1 then (some (((a0.1, (a1.1, (a2.1, (a3.1, (a4.1, (a5.1, (a6.1, (a7.1, (a8.1, (a9.1, (a10.1, (a11.1, (b1.1, (b3.1, (b4.1, (b5.1, (b6.1, (b7.1, (b8.1, (b9, (d1.1, (d2.1, (d4.1, (d5.1, (d6.1, (d7.1, (d8, (a27.1, (a28.1, (true, (a30.1, ((a31.1 ++ (b2.1 :: [])), ((a32.1 ++ (d3 :: [])), a32.2))))))))))))))))))))))))))))))))), ()), ()))
      else some (((a0.1, (a1.1, (a2.1, (a3.1, (a4.1, (a5.1, (a6.1, (a7.1, (a8.1, (a9.1, (a10.1, (a11.1, (b1.1, (b3.1, (b4.1, (b5.1, (b6.1, (b7.1, (b8.1, (b9, (d1.1, (d2.1, (d4.1, (d5.1, (d6.1, (d7.1, (d8, (a27.1, (a28.1, (b2.2.1, (a30.1, ((a31.1 ++ (b2.1 :: [])), ((a32.1 ++ (d3 :: [])), a32.2))))))))))))))))))))))))))))))))), ()), ()))
     else none)
    else bif a29.1 then (some (((a0.1, (a1.1, (a2.1, (a3.1, (a4.1, (a5.1, (a6.1, (a7.1, (a8.1, (a9.1, (a10.1, (a11.1, (b1.1, (b3.1, (b4.1, (b5.1, (b6.1, (b7.1, (b8.1, (b9, (d1.1, (d2.1, (d4.1, (d5.1, (d6.1, (d7.1, (d8, (a27.1, (a28.1, (true, (a30.1, ((a31.1 ++ (b2.1 :: [])), a32)))))))))))))))))))))))))))))))), ()), ()))
    else some (((a0.1, (a1.1, (a2.1, (a3.1, (a4.1, (a5.1, (a6.1, (a7.1, (a8.1, (a9.1, (a10.1, (a11.1, (b1.1, (b3.1, (b4.1, (b5.1, (b6.1, (b7.1, (b8.1, (b9, (d1.1, (d2.1, (d4.1, (d5.1, (d6.1, (d7.1, (d8, (a27.1, (a28.1, (b2.2.1, (a30.1, ((a31.1 ++ (b2.1 :: [])), a32)))))))))))))))))))))))))))))))), ()), ()))
   else none)
  else bif d0.2.2.1 then (bif (leN ((List.length a32.1) + (List.length (d3 :: []))) (E.most .i)) then (bif a29.1 then (some (((a0.1, (a1.1, (a2.1, (a3.1, (a4.1, (a5.1, (a6.1, (a7.1, (a8.1, (a9.1, (a10.1, (a11.1, (b1.1, (b3.1, (b4.1, (b5.1, (b6.1, (b7.1, (b8.1, (b9, (d1.1, (d2.1, (d4.1, (d5.1, (d6.1, (d7.1, (d8, (a27.1, (a28.1, (true, (a30.1, (a31.1, ((a32.1 ++ (d3 :: [])), a32.2))))))))))))))))))))))))))))))))), ()), ()))
    else some (((a0.1, (a1.1, (a2.1, (a3.1, (a4.1, (a5.1, (a6.1, (a7.1, (a8.1, (a9.1, (a10.1, (a11.1, (b1.1, (b3.1, (b4.1, (b5.1, (b6.1, (b7.1, (b8.1, (b9, (d1.1, (d2.1, (d4.1, (d5.1, (d6.1, (d7.1, (d8, (a27.1, (a28.1, (b2.2.1, (a30.1, (a31.1, ((a32.1 ++ (d3 :: [])), a32.2))))))))))))))))))))))))))))))))), ()), ()))
   else none)
  else bif a29.1 then (some (((a0.1, (a1.1, (a2.1, (a3.1, (a4.1, (a5.1, (a6.1, (a7.1, (a8.1, (a9.1, (a10.1, (a11.1, (b1.1, (b3.1, (b4.1, (b5.1, (b6.1, (b7.1, (b8.1, (b9, (d1.1, (d2.1, (d4.1, (d5.1, (d6.1, (d7.1, (d8, (a27.1, (a28.1, (true, a30)))))))))))))))))))))))))))))), ()), ()))
  else some (((a0.1, (a1.1, (a2.1, (a3.1, (a4.1, (a5.1, (a6.1, (a7.1, (a8.1, (a9.1, (a10.1, (a11.1, (b1.1, (b3.1, (b4.1, (b5.1, (b6.1, (b7.1, (b8.1, (b9, (d1.1, (d2.1, (d4.1, (d5.1, (d6.1, (d7.1, (d8, (a27.1, (a28.1, (b2.2.1, a30)))))))))))))))))))))))))))))), ()), ())
noncomputable def E244 (c216 : F216) (c214 : F214) := mkE [g216 c216, g214 c214]
theorem s244 (c216 : F216) (c214 : F214)  (y) : tevF (E244 c216 c214 ) Tryz.f244 i244 o244 y = m244 c216 c214  y := by kernel_rfl
noncomputable def r244 : F244 := m244 r216 r214 
theorem k244 : CK Tryz.prog (g244 r244) := fn0 (s244 r216 r214) (fnsL_ok ⟨k216, k214, trivial⟩) rfl mixed (by kernel_rfl) (by kernel_rfl) (by kernel_rfl)
@[reducible] def i173 : List Ty := [.a q14]
@[reducible] def o173 : List Ty := [.a q14, .v (.bool)]
abbrev R173 := Option (PTup o173 × BTup i173)
abbrev F173 := PTup i173 → R173
abbrev g173 (c : F173) : Nat × Tev.Fn := (173, ⟨i173, o173, c, .may⟩)
@[reducible] def lc173_0 : List Ty := [.v (.int .i64)]
@[reducible] def lb173_0 : List Ty := [.p q14]
@[reducible] def lv173_0 : List Ty := [.v (.int .i64)]
@[reducible] def lr173_0 : List Ty := []
abbrev R173_0 := Option (Sum (PTup lv173_0) (PTup lr173_0) × BTup lb173_0)
abbrev B173_0 := PTup lb173_0 → PTup lv173_0 → R173_0
abbrev A173_0 := PTup lc173_0 → B173_0
noncomputable def w173_0 (c243 : F243) (c244 : F244)  (again : B173_0) (x : PTup lc173_0) (y : PTup lb173_0) (z : PTup lv173_0) : R173_0 :=
  bif (ltI z.1 x.1) then ((c244 (y.1, ())).bind fun r0 =>
   again (r0.1.1, ()) ((wI (z.1 + (1 : Int))), ()))
  else some ((Sum.inl z), (y.1, ()))
noncomputable def e173_0 (l : A173_0) : LoopE := ⟨[5], lc173_0, [4], lb173_0, [6], lv173_0, [], lr173_0, 0, [], l⟩
noncomputable def m173 (c243 : F243) (c244 : F244) (l0 : A173_0) (y : PTup i173) : Option (PTup o173 × BTup i173) :=
  let X0 : R173 := some ((([], ([], ([], ((0 : Int), ((0 : Int), ((0 : Int), ((0 : Int), ((0 : Int), (false, (false, (false, (false, ((0 : Int), ((0 : Int), ((0 : Int), ((0 : Int), ((0 : Int), (false, ([], ([], ((0 : Int), ((0 : Int), ((0 : Int), ((0 : Int), ((0 : Int), (false, (false, (false, ((0 : Int), (false, ((0 : Int), ([], ([], ([], ())))))))))))))))))))))))))))))))))), (false, ())), ()); (c243 (y.1, ())).bind fun r0 => bif (ltI (20000 : Int) (wI (r0.1.1.2.2.2.2.2.2.2.2.2.2.2.2.1 + r0.1.2.1))) then X0 else (l0 r0.1.2 (r0.1.1, ()) ((0 : Int), ())).bind fun r1 => let d0 := r1.2; let d1 := d0.1; let d2 := d1.2; let d3 := d2.2; let d4 := d3.2; let d5 := d4.2; let d6 := d5.2; let d7 := d6.2; let d8 := d7.2; let d9 := d8.2; let d10 := d9.2; let d11 := d10.2; let d12 := d11.2; let d13 := d12.2; let d14 := d13.2; let d15 := d14.2; let d16 := d15.2; let d17 := d16.2; let d18 := d17.2; let d19 := d18.2; let d20 := d19.2; let d21 := d20.2; let d22 := d21.2; let d23 := d22.2; let d24 := d23.2.2; let d25 := d24.2.2; sumElim r1.1 (fun r2 => some (((d1.1, (d2.1, (d3.1, (d4.1, (d5.1, (d6.1, (d7.1, (d8.1, (d9.1, (d10.1, (d11.1, (d12.1, (d13.1, (d14.1, (d15.1, (d16.1, (d17.1, (d18.1, (d19.1, (d20.1, (d21.1, (d22.1, (d23.1, (d23.2.1, (d24.1, (d24.2.1, (d25.1, (d25.2.1, (d25.2.2.1, (d25.2.2.2.1, ((wI (d25.2.2.2.2.1 + (1 : Int))), d25.2.2.2.2.2))))))))))))))))))))))))))))))), (true, ())), ())) (fun r2 => X0)
noncomputable def E173 (c243 : F243) (c244 : F244) (l0 : A173_0) : CEnv := ⟨⟨Tryz.prog, fnsL [g243 c243, g244 c244]⟩, loopsL [(5, e173_0 l0)]⟩
theorem t173_0 (c243 : F243) (c244 : F244) (l0 : A173_0) (again) (x y z) : loopRound (E173 c243 c244 l0) (loopAt (bodyOf Tryz.f173) 0) (e173_0 l0) Tryz.f173.ntmps again x y z = w173_0 c243 c244  again x y z := by kernel_rfl
noncomputable def n173_0 (c243 : F243) (c244 : F244)  : Nat → A173_0
  | 0, _, _, _ => none
  | n + 1, x, y, z => w173_0 c243 c244  (fun y z => n173_0 c243 c244  n x y z) x y z
theorem s173 (c243 : F243) (c244 : F244) (l0 : A173_0) (y) : tevY (E173 c243 c244 l0) Tryz.f173 i173 [.sl true .n, .sl true .i, .sl true .i, .int .i64, .int .i64, .int .i64, .int .i64, .int .i64, .bool, .bool, .bool, .bool, .int .i64, .int .i64, .int .i64, .int .i64, .int .i64, .bool, .sl true .i, .sl true .i, .int .i64, .int .i64, .int .i64, .int .i64, .int .i64, .bool, .bool, .bool, .int .i64, .bool, .int .i64, .sl true .n, .sl true .i, .sl true .i] y = m173 c243 c244 l0 y := by kernel_rfl
noncomputable def L173_0 : A173_0 := n173_0 r243 r244  fuel
noncomputable def r173 : F173 := m173 r243 r244 L173_0
theorem k173 : CK Tryz.prog (g173 r173) := by
  have hE : ∀ g f, (E173 r243 r244 L173_0).env.fns g = some f → CallOk Tryz.prog g f := fnsL_ok ⟨k243, k244, trivial⟩
  have h0 : LoopOk Tryz.prog Tryz.f173.ntmps (loopAt (bodyOf Tryz.f173) 0) (e173_0 L173_0) := lp_ok (E := E173 r243 r244 L173_0) rfl hE mixed (AllLoops.of_list (l := []) (by kernel_rfl) trivial) (n173_0 r243 r244 ) (fun _ _ _ => rfl) (fun n x y z => t173_0 r243 r244 L173_0 _ x y z) rfl
  exact fnY_ok (E := E173 r243 r244 L173_0) rfl hE mixed (by kernel_rfl) (by kernel_rfl) (AllLoops.of_list (l := [(loopAt (bodyOf Tryz.f173) 0)]) (by kernel_rfl) (.one (by kernel_rfl) h0 trivial)) (s173 r243 r244 L173_0)
@[reducible] def i90 : List Ty := [.a q13]
@[reducible] def o90 : List Ty := [.a q14, .v (.bool)]
abbrev R90 := Option (PTup o90 × BTup i90)
abbrev F90 := PTup i90 → R90
abbrev g90 (c : F90) : Nat × Tev.Fn := (90, ⟨i90, o90, c, .nor⟩)
noncomputable def m90 (c87 : F87) (c88 : F88) (c173 : F173)  (y : PTup i90) : Option (PTup o90 × BTup i90) :=
  (c87 (y.1, ())).bind fun r0 =>
  bif (!r0.1.1) then (some ((([], ([], ([], ((0 : Int), ((0 : Int), ((0 : Int), ((0 : Int), ((0 : Int), (false, (false, (false, (false, ((0 : Int), ((0 : Int), ((0 : Int), ((0 : Int), ((0 : Int), (false, ([], ([], ((0 : Int), ((0 : Int), ((0 : Int), ((0 : Int), ((0 : Int), (false, (false, (false, ((0 : Int), (false, ((0 : Int), ([], ([], ([], ())))))))))))))))))))))))))))))))))), (false, ())), ()))
  else (c88 (y.1, ())).bind fun r1 =>
  (c173 (r1.1.1, ())).bind fun r2 =>
  bif r2.1.2.1 then (some ((r2.1.1, (true, ())), ()))
  else (c88 (y.1, ())).bind fun r3 =>
  some ((r3.1.1, (false, ())), ())
noncomputable def E90 (c87 : F87) (c88 : F88) (c173 : F173) := mkE [g87 c87, g88 c88, g173 c173]
theorem s90 (c87 : F87) (c88 : F88) (c173 : F173)  (y) : tevF (E90 c87 c88 c173 ) Tryz.f90 i90 o90 y = m90 c87 c88 c173  y := by kernel_rfl
noncomputable def r90 : F90 := m90 r87 r88 r173 
theorem k90 : CK Tryz.prog (g90 r90) := fn0 (s90 r87 r88 r173) (fnsL_ok ⟨k87, k88, k173, trivial⟩) rfl mixed (by kernel_rfl) (by kernel_rfl) (by kernel_rfl)
@[reducible] def i23 : List Ty := [.a q13, .v (.int .i64)]
@[reducible] def o23 : List Ty := [.a q14, .v (.int .i64)]
abbrev R23 := Option (PTup o23 × BTup i23)
abbrev F23 := PTup i23 → R23
abbrev g23 (c : F23) : Nat × Tev.Fn := (23, ⟨i23, o23, c, .nor⟩)
@[reducible] def lc23_0 : List Ty := [.v (.int .i64)]
@[reducible] def lb23_0 : List Ty := [.p q14, .p q14]
@[reducible] def lv23_0 : List Ty := [.v (.int .i64)]
@[reducible] def lr23_0 : List Ty := [.v (.int .i64)]
abbrev R23_0 := Option (Sum (PTup lv23_0) (PTup lr23_0) × BTup lb23_0)
abbrev B23_0 := PTup lb23_0 → PTup lv23_0 → R23_0
abbrev A23_0 := PTup lc23_0 → B23_0
noncomputable def w23_0 (c87 : F87) (c90 : F90) (c88 : F88) (c89 : F89)  (again : B23_0) (x : PTup lc23_0) (y : PTup lb23_0) (z : PTup lv23_0) : R23_0 :=
  let a0 := y.2; let a1 := a0.1; let a2 := a1.2; let a3 := a2.2; let a4 := a3.2; let a5 := a4.2; let a6 := a5.2; let a7 := a6.2; let a8 := a7.2; let a9 := a8.2; let a10 := a9.2; let a11 := a10.2; let a12 := a11.2; let a13 := a12.2; let a14 := a13.2; let a15 := a14.2; let a16 := a15.2; let a17 := a16.2; let a18 := a17.2; let a19 := a18.2; let a20 := a19.2; let a21 := a20.2; let a22 := a21.2; let a23 := a22.2.2; let a24 := a23.2.2; (c89 (x.1, ((3000 : Int), ()))).bind fun r0 =>
  bif (ltI z.1 r0.1.1) then ((c90 (a1, ())).bind fun r1 =>
   bif (!r1.1.2.1) then (some ((Sum.inr z), (a1, (([], ([], ([], (a4.1, (a5.1, (a6.1, (a7.1, (a8.1, (a9.1, (a10.1, (a11.1, (a12.1, (a13.1, (a14.1, (a15.1, (a16.1, (a17.1, (a18.1, ([], ([], (a21.1, (a22.1, (a22.2.1, (a23.1, (a23.2.1, (a24.1, (a24.2.1, (a24.2.2.1, (a24.2.2.2.1, (a24.2.2.2.2.1, (a24.2.2.2.2.2.1, ([], ([], ([], ())))))))))))))))))))))))))))))))))), ()))))
   else again (y.1, (r1.1.1, ())) ((wI (z.1 + (1 : Int))), ()))
  else some ((Sum.inl z), (y.1, (a1, ())))
noncomputable def e23_0 (l : A23_0) : LoopE := ⟨[1], lc23_0, [4, 6], lb23_0, [7], lv23_0, [5], lr23_0, 0, [false, true], l⟩
noncomputable def m23 (c87 : F87) (c90 : F90) (c88 : F88) (c89 : F89) (l0 : A23_0) (y : PTup i23) : Option (PTup o23 × BTup i23) :=
  (c87 (y.1, ())).bind fun r0 =>
  bif (!r0.1.1) then (some ((([], ([], ([], ((0 : Int), ((0 : Int), ((0 : Int), ((0 : Int), ((0 : Int), (false, (false, (false, (false, ((0 : Int), ((0 : Int), ((0 : Int), ((0 : Int), ((0 : Int), (false, ([], ([], ((0 : Int), ((0 : Int), ((0 : Int), ((0 : Int), ((0 : Int), (false, (false, (false, ((0 : Int), (false, ((0 : Int), ([], ([], ([], ())))))))))))))))))))))))))))))))))), ((0 : Int), ())), ()))
  else (c88 (y.1, ())).bind fun r1 =>
  (l0 y.2 (([], ([], ([], ((0 : Int), ((0 : Int), ((0 : Int), ((0 : Int), ((0 : Int), (false, (false, (false, (false, ((0 : Int), ((0 : Int), ((0 : Int), ((0 : Int), ((0 : Int), (false, ([], ([], ((0 : Int), ((0 : Int), ((0 : Int), ((0 : Int), ((0 : Int), (false, (false, (false, ((0 : Int), (false, ((0 : Int), ([], ([], ([], ())))))))))))))))))))))))))))))))))), (r1.1.1, ())) ((0 : Int), ())).bind fun r2 =>
  sumElim r2.1 (fun r3 => some ((r2.2.2.1, r3), ()))
  (fun r3 => some ((r2.2.1, r3), ()))
noncomputable def E23 (c87 : F87) (c90 : F90) (c88 : F88) (c89 : F89) (l0 : A23_0) : CEnv := ⟨⟨Tryz.prog, fnsL [g87 c87, g90 c90, g88 c88, g89 c89]⟩, loopsL [(5, e23_0 l0)]⟩
theorem t23_0 (c87 : F87) (c90 : F90) (c88 : F88) (c89 : F89) (l0 : A23_0) (again) (x y z) : loopRound (E23 c87 c90 c88 c89 l0) (loopAt (bodyOf Tryz.f23) 0) (e23_0 l0) Tryz.f23.ntmps again x y z = w23_0 c87 c90 c88 c89  again x y z := by kernel_rfl
noncomputable def n23_0 (c87 : F87) (c90 : F90) (c88 : F88) (c89 : F89)  : Nat → A23_0
  | 0, _, _, _ => none
  | n + 1, x, y, z => w23_0 c87 c90 c88 c89  (fun y z => n23_0 c87 c90 c88 c89  n x y z) x y z
theorem s23 (c87 : F87) (c90 : F90) (c88 : F88) (c89 : F89) (l0 : A23_0) (y) : tevF (E23 c87 c90 c88 c89 l0) Tryz.f23 i23 o23 y = m23 c87 c90 c88 c89 l0 y := by kernel_rfl
noncomputable def L23_0 : A23_0 := n23_0 r87 r90 r88 r89  fuel
noncomputable def r23 : F23 := m23 r87 r90 r88 r89 L23_0
theorem k23 : CK Tryz.prog (g23 r23) := by
  have hE : ∀ g f, (E23 r87 r90 r88 r89 L23_0).env.fns g = some f → CallOk Tryz.prog g f := fnsL_ok ⟨k87, k90, k88, k89, trivial⟩
  have h0 : LoopOk Tryz.prog Tryz.f23.ntmps (loopAt (bodyOf Tryz.f23) 0) (e23_0 L23_0) := lp_ok (E := E23 r87 r90 r88 r89 L23_0) rfl hE mixed (AllLoops.of_list (l := []) (by kernel_rfl) trivial) (n23_0 r87 r90 r88 r89 ) (fun _ _ _ => rfl) (fun n x y z => t23_0 r87 r90 r88 r89 L23_0 _ x y z) rfl
  exact fn_ok (E := E23 r87 r90 r88 r89 L23_0) rfl hE mixed (by kernel_rfl) (by kernel_rfl) (AllLoops.of_list (l := [(loopAt (bodyOf Tryz.f23) 0)]) (by kernel_rfl) (.one (by kernel_rfl) h0 trivial)) (s23 r87 r90 r88 r89 L23_0)
end Go.Proofs.YtanoofbkhddokaaGreat.Plain
