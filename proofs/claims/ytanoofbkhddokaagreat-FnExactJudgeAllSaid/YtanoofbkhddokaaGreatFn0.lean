/- Plain functions that the program's functions answer as; their contracts. Printed by a program of the proofs' writer. No condition. -/
import Derived.Test.YtanoofbkhddokaaGreatW5
import Derived.KernelRfl
import Derived.Test.YtanoofbkhddokaaGreatProg
set_option linter.unusedVariables false
set_option linter.unusedSimpArgs false
set_option maxRecDepth 100000
namespace Go.Proofs.YtanoofbkhddokaaGreat.Plain
open Go Go.Tev
theorem mixed : Tryz.prog.follows .mixedOrders = true := by kernel_rfl
noncomputable abbrev mkE (l : List (Nat × Tev.Fn)) : CEnv := ⟨⟨Tryz.prog, fnsL l⟩, loopsL []⟩
abbrev FT (i o : List Ty) := PTup i → Option (PTup o × BTup i)
abbrev Ts := List Ty
noncomputable abbrev TE (l : List (Nat × Tev.Fn)) (f : Func) (i o : List Ty) := tevF (mkE l) f i o
abbrev no : Option ((Bool × Unit) × Unit) := some ((false, ()), ())
abbrev mkG (k : Nat) (i o : List Ty) (c : FT i o) : Nat × Tev.Fn := (k, ⟨i, o, c, .nor⟩)
abbrev KO (x : Nat × Tev.Fn) : Prop := CK Tryz.prog x
theorem fk {l : List (Nat × Tev.Fn)} {g : FuncId} {f : Func} {i o : List Ty} {run : FT i o} (h : ∀ y, tevF (mkE l) f i o y = run y) (hE : AllCalls Tryz.prog l) (hg : (Tryz.prog.funcs[g]?, staticOk f i o && (loopsOf (bodyOf f)).isEmpty) = (some f, true)) : KO (mkG g i o run) := by
  have hs := congrArg Prod.snd hg
  dsimp only at hs
  rw [Bool.and_eq_true, List.isEmpty_iff] at hs
  exact fn0 h (fnsL_ok hE) rfl mixed (congrArg Prod.fst hg) hs.1 hs.2
abbrev q0 : List LT := [.sl false .n]
abbrev q1 : List LT := [.sl false .i, .int .i64]
abbrev q2 : List LT := [.int .i64, .int .i64, .int .i64, .int .i64, .int .i64, .bool, .sl false .i, .sl false .i]
abbrev q3 : List LT := [.int .i64, .sl false .t]
abbrev q4 : List LT := [.int .i64, .int .i64, .int .i64, .int .i64, .int .i64, .bool, .sl false .i, .sl false .i, .int .i64, .sl false .t, .sl false .n]
abbrev q5 : List LT := [.int .i64, .int .i64, .int .i64, .int .i64, .int .i64, .bool, .bool, .int .i64, .sl false .t, .sl false .i]
abbrev q6 : List LT := [.sl false .n, .sl false .i, .sl false .i, .int .i64, .int .i64, .int .i64, .int .i64, .int .i64, .bool, .bool, .bool, .bool, .bool, .int .i64, .int .i64, .bool, .int .i64, .bool, .int .i64, .int .i64, .sl false .i, .int .i64, .int .i64, .int .i64, .int .i64, .int .i64, .bool, .sl false .i, .sl false .i, .int .i64, .sl false .t, .sl false .n, .int .i64, .int .i64, .int .i64, .int .i64, .int .i64, .bool, .bool, .int .i64, .sl false .t, .sl false .i]
abbrev q7 : List LT := [.sl true .i, .int .i64]
abbrev q8 : List LT := [.int .i64, .int .i64, .int .i64, .int .i64, .bool, .bool, .bool, .bool]
abbrev q9 : List LT := [.bool, .int .i64]
abbrev q10 : List LT := [.int .i64, .int .i64, .int .i64, .int .i64, .int .i64, .bool, .sl true .i, .sl true .i]
abbrev q11 : List LT := [.int .i64, .int .i64, .int .i64]
abbrev q12 : List LT := [.int .i64, .sl true .t]
abbrev q13 : List LT := [.int .i64, .int .i64, .int .i64, .int .i64, .int .i64, .bool, .sl true .i, .sl true .i, .int .i64, .sl true .t, .sl true .n]
abbrev q14 : List LT := [.int .i64, .int .i64, .int .i64, .int .i64, .int .i64, .bool, .bool]
abbrev q15 : List LT := [.int .i64, .int .i64, .int .i64, .int .i64, .int .i64, .bool, .bool, .int .i64, .sl true .t, .sl true .i]
abbrev q16 : List LT := [.sl true .n, .sl true .i, .sl true .i, .int .i64, .int .i64, .int .i64, .int .i64, .int .i64, .bool, .bool, .bool, .bool, .bool, .int .i64, .int .i64, .bool, .int .i64, .bool, .int .i64, .int .i64, .sl true .i, .int .i64, .int .i64, .int .i64, .int .i64, .int .i64, .bool, .sl true .i, .sl true .i, .int .i64, .sl true .t, .sl true .n, .int .i64, .int .i64, .int .i64, .int .i64, .int .i64, .bool, .bool, .int .i64, .sl true .t, .sl true .i]
abbrev q17 : List LT := [.sl false .n, .sl false .i, .sl false .i, .int .i64, .int .i64, .int .i64, .int .i64, .int .i64, .bool, .bool, .bool, .bool, .int .i64, .int .i64, .int .i64, .int .i64, .int .i64, .bool, .sl false .i, .sl false .i, .int .i64, .int .i64, .int .i64, .int .i64, .int .i64, .bool, .bool, .bool, .int .i64, .bool, .int .i64, .sl false .n, .sl false .i, .sl false .i]
abbrev q18 : List LT := [.sl true .n, .sl true .i, .sl true .i, .int .i64, .int .i64, .int .i64, .int .i64, .int .i64, .bool, .bool, .bool, .bool, .int .i64, .int .i64, .int .i64, .int .i64, .int .i64, .bool, .sl true .i, .sl true .i, .int .i64, .int .i64, .int .i64, .int .i64, .int .i64, .bool, .bool, .bool, .int .i64, .bool, .int .i64, .sl true .n, .sl true .i, .sl true .i]
abbrev q19 : List LT := [.int .i64, .int .i64]
abbrev q20 : List LT := [.sl false .n, .sl false .i, .sl false .i, .int .i64, .int .i64, .int .i64, .int .i64, .int .i64, .bool, .bool, .bool, .bool, .int .i64, .int .i64, .int .i64, .int .i64, .int .i64, .bool, .sl false .i, .sl true .i, .int .i64, .int .i64, .int .i64, .int .i64, .int .i64, .bool, .bool, .bool, .int .i64, .bool, .int .i64, .sl true .n, .sl true .i, .sl false .i]
abbrev q21 : List LT := [.sl false .n, .sl false .i, .sl true .i, .int .i64, .int .i64, .int .i64, .int .i64, .int .i64, .bool, .bool, .bool, .bool, .int .i64, .int .i64, .int .i64, .int .i64, .int .i64, .bool, .sl true .i, .sl true .i, .int .i64, .int .i64, .int .i64, .int .i64, .int .i64, .bool, .bool, .bool, .int .i64, .bool, .int .i64, .sl true .n, .sl true .i, .sl true .i]
abbrev q22 : List LT := [.sl false .n, .sl false .i, .sl true .i, .int .i64, .int .i64, .int .i64, .int .i64, .int .i64, .bool, .bool, .bool, .bool, .bool, .int .i64, .int .i64, .bool, .int .i64, .bool, .int .i64, .int .i64, .sl true .i, .int .i64, .int .i64, .int .i64, .int .i64, .int .i64, .bool, .sl false .i, .sl false .i, .int .i64, .sl true .t, .sl false .n, .int .i64, .int .i64, .int .i64, .int .i64, .int .i64, .bool, .bool, .int .i64, .sl true .t, .sl false .i]
abbrev q23 : List LT := [.sl false .n, .sl false .i, .sl false .i]
abbrev i54 : Ts := [.v (.sl false .i), .v (.int .i64)]
abbrev o54 : Ts := [.v (.int .i64)]
abbrev F54 := FT i54 o54
abbrev g54 := mkG 54 i54 o54
noncomputable def m54 (y : PTup i54) : Option (PTup o54 × BTup i54) :=
  bif (ltI (wI (y.2.1 - (lenI y.1))) (0 : Int)) then (some (((-(1 : Int)), ()), ()))
  else some (((wI (y.2.1 - (lenI y.1))), ()), ())
theorem s54 (y) : TE [] Tryz.f54 i54 o54 y = m54 y := by kernel_rfl
noncomputable def r54 : F54 := m54 
theorem k54 : KO (g54 r54) := fk (s54 ) trivial (by kernel_rfl)
abbrev i130 : Ts := [.v (.sl false .n), .v (.int .i64)]
abbrev o130 : Ts := [.v (.int .i64)]
abbrev F130 := FT i130 o130
abbrev g130 := mkG 130 i130 o130
abbrev lc130_0 : Ts := [.v (.sl false .n)]
abbrev lb130_0 : Ts := []
abbrev lv130_0 : Ts := [.v (.int .i64), .v (.int .i64)]
abbrev lr130_0 : Ts := [.v (.int .i64)]
abbrev R130_0 := Option (Sum (PTup lv130_0) (PTup lr130_0) × BTup lb130_0)
abbrev B130_0 := PTup lb130_0 → PTup lv130_0 → R130_0
abbrev A130_0 := PTup lc130_0 → B130_0
noncomputable def w130_0 (c54 : F54) (again : B130_0) (x : PTup lc130_0) (y : PTup lb130_0) (z : PTup lv130_0) : R130_0 :=
  bif (ltI z.2.1 (lenI x.1)) then (bif (leI 0 z.2.1) then (bif (ltI z.2.1 (lenI x.1)) then ((c54 ((rdE .n x.1 z.2.1), (z.1, ()))).bind fun r0 =>
     bif (ltI r0.1.1 0) then (some ((Sum.inr ((-(1 : Int)), ())), ()))
     else again () (r0.1.1, ((wI (z.2.1 + 1)), ())))
    else none)
   else none)
  else some ((Sum.inl z), ())
noncomputable def e130_0 (l : A130_0) : LoopE := ⟨[0], lc130_0, [], lb130_0, [1, 5], lv130_0, [4], lr130_0, 0, [], l⟩
noncomputable def m130 (c54 : F54) (l0 : A130_0) (y : PTup i130) : Option (PTup o130 × BTup i130) :=
  bif (ltI (wI (y.2.1 - (lenI y.1))) (0 : Int)) then (some (((-(1 : Int)), ()), ()))
  else (l0 (y.1, ()) () ((wI (y.2.1 - (lenI y.1))), ((0 : Int), ()))).bind fun r0 =>
  sumElim r0.1 (fun r1 => some ((r1.1, ()), ()))
  (fun r1 => some (r1, ()))
noncomputable def E130 (c54 : F54) (l0 : A130_0) : CEnv := ⟨⟨Tryz.prog, fnsL [g54 c54]⟩, loopsL [(5, e130_0 l0)]⟩
theorem t130_0 (c54 : F54) (l0 : A130_0) (again) (x y z) : loopRound (E130 c54 l0) (loopAt (bodyOf Tryz.f130) 0) (e130_0 l0) Tryz.f130.ntmps again x y z = w130_0 c54 again x y z := by kernel_rfl
noncomputable def n130_0 (c54 : F54) : Nat → A130_0
  | 0, _, _, _ => none
  | n + 1, x, y, z => w130_0 c54 (fun y z => n130_0 c54 n x y z) x y z
theorem s130 (c54 : F54) (l0 : A130_0) (y) : tevF (E130 c54 l0) Tryz.f130 i130 o130 y = m130 c54 l0 y := by kernel_rfl
noncomputable def L130_0 : A130_0 := n130_0 r54 fuel
noncomputable def r130 : F130 := m130 r54 L130_0
theorem k130 : KO (g130 r130) := by
  have hE : ∀ g f, (E130 r54 L130_0).env.fns g = some f → CallOk Tryz.prog g f := fnsL_ok ⟨k54, ⟨⟩⟩
  have h0 : LoopOk Tryz.prog Tryz.f130.ntmps (loopAt (bodyOf Tryz.f130) 0) (e130_0 L130_0) := lp_ok (E := E130 r54 L130_0) rfl hE mixed (AllLoops.of_list (l := []) (by kernel_rfl) trivial) (n130_0 r54 ) (fun _ _ _ => rfl) (fun n x y z => t130_0 r54 L130_0 _ x y z) rfl
  exact fn_ok (E := E130 r54 L130_0) rfl hE mixed (by kernel_rfl) (by kernel_rfl) (AllLoops.of_list (l := [(loopAt (bodyOf Tryz.f130) 0)]) (by kernel_rfl) (.one (by kernel_rfl) h0 trivial)) (s130 r54 L130_0)
abbrev i53 : Ts := [.a q0, .v (.int .i64)]
abbrev o53 : Ts := [.v (.int .i64)]
abbrev F53 := FT i53 o53
abbrev g53 := mkG 53 i53 o53
noncomputable def m53 (c130 : F130) (y : PTup i53) : Option (PTup o53 × BTup i53) :=
  (c130 (y.1.1, y.2)).bind fun r0 =>
  bif (ltI r0.1.1 0) then (some (((-(1 : Int)), ()), ()))
  else some (r0.1, ())
theorem s53 (c130 : F130) (y) : TE [g130 c130] Tryz.f53 i53 o53 y = m53 c130 y := by kernel_rfl
noncomputable def r53 : F53 := m53 r130 
theorem k53 : KO (g53 r53) := fk (s53 r130) ⟨k130, ⟨⟩⟩ (by kernel_rfl)
abbrev i55 : Ts := [.a q1, .v (.int .i64)]
abbrev o55 : Ts := [.v (.int .i64)]
abbrev F55 := FT i55 o55
abbrev g55 := mkG 55 i55 o55
noncomputable def m55 (c54 : F54) (y : PTup i55) : Option (PTup o55 × BTup i55) :=
  (c54 (y.1.1, y.2)).bind fun r0 =>
  bif (ltI r0.1.1 0) then (some (((-(1 : Int)), ()), ()))
  else some (r0.1, ())
theorem s55 (c54 : F54) (y) : TE [g54 c54] Tryz.f55 i55 o55 y = m55 c54 y := by kernel_rfl
noncomputable def r55 : F55 := m55 r54 
theorem k55 : KO (g55 r55) := fk (s55 r54) ⟨k54, ⟨⟩⟩ (by kernel_rfl)
abbrev i85 : Ts := [.a q2, .v (.int .i64)]
abbrev o85 : Ts := [.v (.int .i64)]
abbrev F85 := FT i85 o85
abbrev g85 := mkG 85 i85 o85
noncomputable def m85 (c54 : F54) (y : PTup i85) : Option (PTup o85 × BTup i85) :=
  (c54 (y.1.2.2.2.2.2.2.1, y.2)).bind fun r0 =>
  bif (ltI r0.1.1 0) then (some (((-(1 : Int)), ()), ()))
  else (c54 (y.1.2.2.2.2.2.2.2.1, r0.1)).bind fun r1 =>
  bif (ltI r1.1.1 0) then (some (((-(1 : Int)), ()), ()))
  else some (r1.1, ())
theorem s85 (c54 : F54) (y) : TE [g54 c54] Tryz.f85 i85 o85 y = m85 c54 y := by kernel_rfl
noncomputable def r85 : F85 := m85 r54 
theorem k85 : KO (g85 r85) := fk (s85 r54) ⟨k54, ⟨⟩⟩ (by kernel_rfl)
abbrev i229 : Ts := [.v (.sl false .t), .v (.int .i64)]
abbrev o229 : Ts := [.v (.int .i64)]
abbrev F229 := FT i229 o229
abbrev g229 := mkG 229 i229 o229
noncomputable def m229 (y : PTup i229) : Option (PTup o229 × BTup i229) :=
  bif (ltI (wI (y.2.1 - (lenI y.1))) (0 : Int)) then (some (((-(1 : Int)), ()), ()))
  else some (((wI (y.2.1 - (lenI y.1))), ()), ())
theorem s229 (y) : TE [] Tryz.f229 i229 o229 y = m229 y := by kernel_rfl
noncomputable def r229 : F229 := m229 
theorem k229 : KO (g229 r229) := fk (s229 ) trivial (by kernel_rfl)
abbrev i131 : Ts := [.a q3, .v (.int .i64)]
abbrev o131 : Ts := [.v (.int .i64)]
abbrev F131 := FT i131 o131
abbrev g131 := mkG 131 i131 o131
noncomputable def m131 (c229 : F229) (y : PTup i131) : Option (PTup o131 × BTup i131) :=
  (c229 (y.1.2.1, y.2)).bind fun r0 =>
  bif (ltI r0.1.1 0) then (some (((-(1 : Int)), ()), ()))
  else some (r0.1, ())
theorem s131 (c229 : F229) (y) : TE [g229 c229] Tryz.f131 i131 o131 y = m131 c229 y := by kernel_rfl
noncomputable def r131 : F131 := m131 r229 
theorem k131 : KO (g131 r131) := fk (s131 r229) ⟨k229, ⟨⟩⟩ (by kernel_rfl)
abbrev i56 : Ts := [.a q4, .v (.int .i64)]
abbrev o56 : Ts := [.v (.int .i64)]
abbrev F56 := FT i56 o56
abbrev g56 := mkG 56 i56 o56
noncomputable def m56 (c130 : F130) (c85 : F85) (c131 : F131) (y : PTup i56) : Option (PTup o56 × BTup i56) :=
  (c85 ((y.1.1, (y.1.2.1, (y.1.2.2.1, (y.1.2.2.2.1, (y.1.2.2.2.2.1, (y.1.2.2.2.2.2.1, (y.1.2.2.2.2.2.2.1, (y.1.2.2.2.2.2.2.2.1, ())))))))), y.2)).bind fun r0 =>
  bif (ltI r0.1.1 0) then (some (((-(1 : Int)), ()), ()))
  else (c131 ((y.1.2.2.2.2.2.2.2.2.1, (y.1.2.2.2.2.2.2.2.2.2.1, ())), r0.1)).bind fun r1 =>
  bif (ltI r1.1.1 0) then (some (((-(1 : Int)), ()), ()))
  else (c130 (y.1.2.2.2.2.2.2.2.2.2.2.1, r1.1)).bind fun r2 =>
  bif (ltI r2.1.1 0) then (some (((-(1 : Int)), ()), ()))
  else some (r2.1, ())
theorem s56 (c130 : F130) (c85 : F85) (c131 : F131) (y) : TE [g130 c130, g85 c85, g131 c131] Tryz.f56 i56 o56 y = m56 c130 c85 c131 y := by kernel_rfl
noncomputable def r56 : F56 := m56 r130 r85 r131 
theorem k56 : KO (g56 r56) := fk (s56 r130 r85 r131) ⟨k130, k85, k131, ⟨⟩⟩ (by kernel_rfl)
abbrev i57 : Ts := [.a q5, .v (.int .i64)]
abbrev o57 : Ts := [.v (.int .i64)]
abbrev F57 := FT i57 o57
abbrev g57 := mkG 57 i57 o57
noncomputable def m57 (c54 : F54) (c131 : F131) (y : PTup i57) : Option (PTup o57 × BTup i57) :=
  (c131 ((y.1.2.2.2.2.2.2.2.1, (y.1.2.2.2.2.2.2.2.2.1, ())), y.2)).bind fun r0 =>
  bif (ltI r0.1.1 0) then (some (((-(1 : Int)), ()), ()))
  else (c54 (y.1.2.2.2.2.2.2.2.2.2.1, r0.1)).bind fun r1 =>
  bif (ltI r1.1.1 0) then (some (((-(1 : Int)), ()), ()))
  else some (r1.1, ())
theorem s57 (c54 : F54) (c131 : F131) (y) : TE [g54 c54, g131 c131] Tryz.f57 i57 o57 y = m57 c54 c131 y := by kernel_rfl
noncomputable def r57 : F57 := m57 r54 r131 
theorem k57 : KO (g57 r57) := fk (s57 r54 r131) ⟨k54, k131, ⟨⟩⟩ (by kernel_rfl)
abbrev i15 : Ts := [.a q6, .v (.int .i64)]
abbrev o15 : Ts := [.v (.int .i64)]
abbrev F15 := FT i15 o15
abbrev g15 := mkG 15 i15 o15
noncomputable def m15 (c53 : F53) (c54 : F54) (c55 : F55) (c56 : F56) (c57 : F57) (y : PTup i15) : Option (PTup o15 × BTup i15) :=
  let a0 := y.1; let a1 := a0.2; let a2 := a1.2; let a3 := a2.2; let a4 := a3.2; let a5 := a4.2; let a6 := a5.2; let a7 := a6.2; let a8 := a7.2; let a9 := a8.2; let a10 := a9.2.2; let a11 := a10.2; let a12 := a11.2; let a13 := a12.2; let a14 := a13.2; let a15 := a14.2; let a16 := a15.2; let a17 := a16.2; let a18 := a17.2; let a19 := a18.2; let a20 := a19.2; let a21 := a20.2; let a22 := a21.2; let a23 := a22.2.2; let a24 := a23.2.2; (c53 ((a0.1, ()), y.2)).bind fun r0 =>
  bif (ltI r0.1.1 0) then (some (((-(1 : Int)), ()), ()))
  else (c54 (a1.1, r0.1)).bind fun r1 =>
  bif (ltI r1.1.1 0) then (some (((-(1 : Int)), ()), ()))
  else (c55 ((a2.1, (a3.1, ())), r1.1)).bind fun r2 =>
  bif (ltI r2.1.1 0) then (some (((-(1 : Int)), ()), ()))
  else (c54 (a19.1, r2.1)).bind fun r3 =>
  bif (ltI r3.1.1 0) then (some (((-(1 : Int)), ()), ()))
  else (c56 ((a20.1, (a21.1, (a22.1, (a22.2.1, (a23.1, (a23.2.1, (a24.1, (a24.2.1, (a24.2.2.1, (a24.2.2.2.1, (a24.2.2.2.2.1, ()))))))))))), r3.1)).bind fun r4 =>
  bif (ltI r4.1.1 0) then (some (((-(1 : Int)), ()), ()))
  else (c57 (a24.2.2.2.2.2, r4.1)).bind fun r5 =>
  bif (ltI r5.1.1 0) then (some (((-(1 : Int)), ()), ()))
  else some (r5.1, ())
theorem s15 (c53 : F53) (c54 : F54) (c55 : F55) (c56 : F56) (c57 : F57) (y) : TE [g53 c53, g54 c54, g55 c55, g56 c56, g57 c57] Tryz.f15 i15 o15 y = m15 c53 c54 c55 c56 c57 y := by kernel_rfl
noncomputable def r15 : F15 := m15 r53 r54 r55 r56 r57 
theorem k15 : KO (g15 r15) := fk (s15 r53 r54 r55 r56 r57) ⟨k53, k54, k55, k56, k57, ⟨⟩⟩ (by kernel_rfl)
abbrev i41 : Ts := [.v (.sl false .i)]
abbrev o41 : Ts := [.v (.sl true .i)]
abbrev F41 := FT i41 o41
abbrev g41 := mkG 41 i41 o41
abbrev lc41_0 : Ts := [.v (.sl false .i)]
abbrev lb41_0 : Ts := []
abbrev lv41_0 : Ts := [.v (.int .i64), .v (.sl true .i)]
abbrev lr41_0 : Ts := []
abbrev R41_0 := Option (Sum (PTup lv41_0) (PTup lr41_0) × BTup lb41_0)
abbrev B41_0 := PTup lb41_0 → PTup lv41_0 → R41_0
abbrev A41_0 := PTup lc41_0 → B41_0
noncomputable def w41_0 (again : B41_0) (x : PTup lc41_0) (y : PTup lb41_0) (z : PTup lv41_0) : R41_0 :=
  bif (ltI z.1 (lenI x.1)) then (bif (leI 0 z.1) then (bif (ltI z.1 (lenI x.1)) then (bif (leI 0 z.1) then (bif (ltI z.1 (lenI z.2.1)) then (again () ((wI (z.1 + 1)), ((List.set z.2.1 (Int.toNat z.1) (rdE .i x.1 z.1)), ())))
      else none)
     else none)
    else none)
   else none)
  else some ((Sum.inl z), ())
noncomputable def e41_0 (l : A41_0) : LoopE := ⟨[0], lc41_0, [], lb41_0, [4, 3], lv41_0, [], lr41_0, 0, [], l⟩
noncomputable def m41 (l0 : A41_0) (y : PTup i41) : Option (PTup o41 × BTup i41) :=
  bif (leN (Int.toNat (lenI y.1)) (E.most .i)) then ((l0 y () ((0 : Int), ((List.replicate (Int.toNat (lenI y.1)) (0 : Int)), ()))).bind fun r0 =>
   sumElim r0.1 (fun r1 => some (r1.2, ()))
   (fun r1 => some (([], ()), ())))
  else none
noncomputable def E41 (l0 : A41_0) : CEnv := ⟨⟨Tryz.prog, fnsL []⟩, loopsL [(3, e41_0 l0)]⟩
theorem t41_0 (l0 : A41_0) (again) (x y z) : loopRound (E41 l0) (loopAt (bodyOf Tryz.f41) 0) (e41_0 l0) Tryz.f41.ntmps again x y z = w41_0 again x y z := by kernel_rfl
noncomputable def n41_0 : Nat → A41_0
  | 0, _, _, _ => none
  | n + 1, x, y, z => w41_0 (fun y z => n41_0 n x y z) x y z
theorem s41 (l0 : A41_0) (y) : tevF (E41 l0) Tryz.f41 i41 o41 y = m41 l0 y := by kernel_rfl
noncomputable def L41_0 : A41_0 := n41_0 fuel
noncomputable def r41 : F41 := m41 L41_0
theorem k41 : KO (g41 r41) := by
  have hE : ∀ g f, (E41 L41_0).env.fns g = some f → CallOk Tryz.prog g f := fnsL_ok trivial
  have h0 : LoopOk Tryz.prog Tryz.f41.ntmps (loopAt (bodyOf Tryz.f41) 0) (e41_0 L41_0) := lp_ok (E := E41 L41_0) rfl hE mixed (AllLoops.of_list (l := []) (by kernel_rfl) trivial) (n41_0 ) (fun _ _ _ => rfl) (fun n x y z => t41_0 L41_0 _ x y z) rfl
  exact fn_ok (E := E41 L41_0) rfl hE mixed (by kernel_rfl) (by kernel_rfl) (AllLoops.of_list (l := [(loopAt (bodyOf Tryz.f41) 0)]) (by kernel_rfl) (.one (by kernel_rfl) h0 trivial)) (s41 L41_0)
abbrev i144 : Ts := [.v (.sl false .n)]
abbrev o144 : Ts := [.v (.sl true .n)]
abbrev F144 := FT i144 o144
abbrev g144 := mkG 144 i144 o144
abbrev lc144_0 : Ts := [.v (.sl false .n)]
abbrev lb144_0 : Ts := []
abbrev lv144_0 : Ts := [.v (.int .i64), .v (.sl true .n)]
abbrev lr144_0 : Ts := []
abbrev R144_0 := Option (Sum (PTup lv144_0) (PTup lr144_0) × BTup lb144_0)
abbrev B144_0 := PTup lb144_0 → PTup lv144_0 → R144_0
abbrev A144_0 := PTup lc144_0 → B144_0
noncomputable def w144_0 (c41 : F41) (again : B144_0) (x : PTup lc144_0) (y : PTup lb144_0) (z : PTup lv144_0) : R144_0 :=
  bif (ltI z.1 (lenI x.1)) then (bif (leI 0 z.1) then (bif (ltI z.1 (lenI x.1)) then ((c41 ((rdE .n x.1 z.1), ())).bind fun r0 =>
     bif (leI 0 z.1) then (bif (ltI z.1 (lenI z.2.1)) then (again () ((wI (z.1 + 1)), ((List.set z.2.1 (Int.toNat z.1) r0.1.1), ())))
      else none)
     else none)
    else none)
   else none)
  else some ((Sum.inl z), ())
noncomputable def e144_0 (l : A144_0) : LoopE := ⟨[0], lc144_0, [], lb144_0, [4, 3], lv144_0, [], lr144_0, 0, [], l⟩
noncomputable def m144 (c41 : F41) (l0 : A144_0) (y : PTup i144) : Option (PTup o144 × BTup i144) :=
  bif (leN (Int.toNat (lenI y.1)) (E.most .n)) then ((l0 y () ((0 : Int), ((List.replicate (Int.toNat (lenI y.1)) []), ()))).bind fun r0 =>
   sumElim r0.1 (fun r1 => some (r1.2, ()))
   (fun r1 => some (([], ()), ())))
  else none
noncomputable def E144 (c41 : F41) (l0 : A144_0) : CEnv := ⟨⟨Tryz.prog, fnsL [g41 c41]⟩, loopsL [(3, e144_0 l0)]⟩
theorem t144_0 (c41 : F41) (l0 : A144_0) (again) (x y z) : loopRound (E144 c41 l0) (loopAt (bodyOf Tryz.f144) 0) (e144_0 l0) Tryz.f144.ntmps again x y z = w144_0 c41 again x y z := by kernel_rfl
noncomputable def n144_0 (c41 : F41) : Nat → A144_0
  | 0, _, _, _ => none
  | n + 1, x, y, z => w144_0 c41 (fun y z => n144_0 c41 n x y z) x y z
theorem s144 (c41 : F41) (l0 : A144_0) (y) : tevF (E144 c41 l0) Tryz.f144 i144 o144 y = m144 c41 l0 y := by kernel_rfl
noncomputable def L144_0 : A144_0 := n144_0 r41 fuel
noncomputable def r144 : F144 := m144 r41 L144_0
theorem k144 : KO (g144 r144) := by
  have hE : ∀ g f, (E144 r41 L144_0).env.fns g = some f → CallOk Tryz.prog g f := fnsL_ok ⟨k41, ⟨⟩⟩
  have h0 : LoopOk Tryz.prog Tryz.f144.ntmps (loopAt (bodyOf Tryz.f144) 0) (e144_0 L144_0) := lp_ok (E := E144 r41 L144_0) rfl hE mixed (AllLoops.of_list (l := []) (by kernel_rfl) trivial) (n144_0 r41 ) (fun _ _ _ => rfl) (fun n x y z => t144_0 r41 L144_0 _ x y z) rfl
  exact fn_ok (E := E144 r41 L144_0) rfl hE mixed (by kernel_rfl) (by kernel_rfl) (AllLoops.of_list (l := [(loopAt (bodyOf Tryz.f144) 0)]) (by kernel_rfl) (.one (by kernel_rfl) h0 trivial)) (s144 r41 L144_0)
abbrev i62 : Ts := [.a q0]
abbrev o62 : Ts := [.a [.sl true .n]]
abbrev F62 := FT i62 o62
abbrev g62 := mkG 62 i62 o62
noncomputable def m62 (c144 : F144) (y : PTup i62) : Option (PTup o62 × BTup i62) :=
  (c144 y.1).bind fun r0 =>
  some ((r0.1, ()), ())
theorem s62 (c144 : F144) (y) : TE [g144 c144] Tryz.f62 i62 o62 y = m62 c144 y := by kernel_rfl
noncomputable def r62 : F62 := m62 r144 
theorem k62 : KO (g62 r62) := fk (s62 r144) ⟨k144, ⟨⟩⟩ (by kernel_rfl)
abbrev i63 : Ts := [.a q1]
abbrev o63 : Ts := [.a q7]
abbrev F63 := FT i63 o63
abbrev g63 := mkG 63 i63 o63
noncomputable def m63 (c41 : F41) (y : PTup i63) : Option (PTup o63 × BTup i63) :=
  (c41 (y.1.1, ())).bind fun r0 =>
  some (((r0.1.1, y.1.2), ()), ())
theorem s63 (c41 : F41) (y) : TE [g41 c41] Tryz.f63 i63 o63 y = m63 c41 y := by kernel_rfl
noncomputable def r63 : F63 := m63 r41 
theorem k63 : KO (g63 r63) := fk (s63 r41) ⟨k41, ⟨⟩⟩ (by kernel_rfl)
abbrev i64 : Ts := [.a q8]
abbrev o64 : Ts := [.a q8]
abbrev F64 := FT i64 o64
abbrev g64 := mkG 64 i64 o64
noncomputable def m64 (y : PTup i64) : Option (PTup o64 × BTup i64) :=
  some ((y.1, ()), ())
theorem s64 (y) : TE [] Tryz.f64 i64 o64 y = m64 y := by kernel_rfl
noncomputable def r64 : F64 := m64 
theorem k64 : KO (g64 r64) := fk (s64 ) trivial (by kernel_rfl)
abbrev i65 : Ts := [.a q9]
abbrev o65 : Ts := [.a q9]
abbrev F65 := FT i65 o65
abbrev g65 := mkG 65 i65 o65
noncomputable def m65 (y : PTup i65) : Option (PTup o65 × BTup i65) :=
  some ((y.1, ()), ())
theorem s65 (y) : TE [] Tryz.f65 i65 o65 y = m65 y := by kernel_rfl
noncomputable def r65 : F65 := m65 
theorem k65 : KO (g65 r65) := fk (s65 ) trivial (by kernel_rfl)
abbrev i91 : Ts := [.a q2]
abbrev o91 : Ts := [.a q10]
abbrev F91 := FT i91 o91
abbrev g91 := mkG 91 i91 o91
noncomputable def m91 (c41 : F41) (y : PTup i91) : Option (PTup o91 × BTup i91) :=
  (c41 (y.1.2.2.2.2.2.2.1, ())).bind fun r0 =>
  (c41 y.1.2.2.2.2.2.2.2).bind fun r1 =>
  some (((y.1.1, (y.1.2.1, (y.1.2.2.1, (y.1.2.2.2.1, (y.1.2.2.2.2.1, (y.1.2.2.2.2.2.1, (r0.1.1, r1.1))))))), ()), ())
theorem s91 (c41 : F41) (y) : TE [g41 c41] Tryz.f91 i91 o91 y = m91 c41 y := by kernel_rfl
noncomputable def r91 : F91 := m91 r41 
theorem k91 : KO (g91 r91) := fk (s91 r41) ⟨k41, ⟨⟩⟩ (by kernel_rfl)
abbrev i289 : Ts := [.a q11]
abbrev o289 : Ts := [.a q11]
abbrev F289 := FT i289 o289
abbrev g289 := mkG 289 i289 o289
noncomputable def m289 (y : PTup i289) : Option (PTup o289 × BTup i289) :=
  some ((y.1, ()), ())
theorem s289 (y) : TE [] Tryz.f289 i289 o289 y = m289 y := by kernel_rfl
noncomputable def r289 : F289 := m289 
theorem k289 : KO (g289 r289) := fk (s289 ) trivial (by kernel_rfl)
abbrev i233 : Ts := [.v (.sl false .t)]
abbrev o233 : Ts := [.v (.sl true .t)]
abbrev F233 := FT i233 o233
abbrev g233 := mkG 233 i233 o233
abbrev lc233_0 : Ts := [.v (.sl false .t)]
abbrev lb233_0 : Ts := []
abbrev lv233_0 : Ts := [.v (.int .i64), .v (.sl true .t)]
abbrev lr233_0 : Ts := []
abbrev R233_0 := Option (Sum (PTup lv233_0) (PTup lr233_0) × BTup lb233_0)
abbrev B233_0 := PTup lb233_0 → PTup lv233_0 → R233_0
abbrev A233_0 := PTup lc233_0 → B233_0
noncomputable def w233_0 (c289 : F289) (again : B233_0) (x : PTup lc233_0) (y : PTup lb233_0) (z : PTup lv233_0) : R233_0 :=
  bif (ltI z.1 (lenI x.1)) then (bif (leI 0 z.1) then (bif (ltI z.1 (lenI x.1)) then ((c289 (((rdE .t x.1 z.1).1, ((rdE .t x.1 z.1).2.1, ((rdE .t x.1 z.1).2.2, ()))), ())).bind fun r0 =>
     bif (leI 0 z.1) then (bif (ltI z.1 (lenI z.2.1)) then (again () ((wI (z.1 + 1)), ((List.set z.2.1 (Int.toNat z.1) (r0.1.1.1, (r0.1.1.2.1, r0.1.1.2.2.1))), ())))
      else none)
     else none)
    else none)
   else none)
  else some ((Sum.inl z), ())
noncomputable def e233_0 (l : A233_0) : LoopE := ⟨[0], lc233_0, [], lb233_0, [4, 3], lv233_0, [], lr233_0, 0, [], l⟩
noncomputable def m233 (c289 : F289) (l0 : A233_0) (y : PTup i233) : Option (PTup o233 × BTup i233) :=
  bif (leN (Int.toNat (lenI y.1)) (E.most .t)) then ((l0 y () ((0 : Int), ((List.replicate (Int.toNat (lenI y.1)) ((0 : Int), ((0 : Int), (0 : Int)))), ()))).bind fun r0 =>
   sumElim r0.1 (fun r1 => some (r1.2, ()))
   (fun r1 => some (([], ()), ())))
  else none
noncomputable def E233 (c289 : F289) (l0 : A233_0) : CEnv := ⟨⟨Tryz.prog, fnsL [g289 c289]⟩, loopsL [(3, e233_0 l0)]⟩
theorem t233_0 (c289 : F289) (l0 : A233_0) (again) (x y z) : loopRound (E233 c289 l0) (loopAt (bodyOf Tryz.f233) 0) (e233_0 l0) Tryz.f233.ntmps again x y z = w233_0 c289 again x y z := by kernel_rfl
noncomputable def n233_0 (c289 : F289) : Nat → A233_0
  | 0, _, _, _ => none
  | n + 1, x, y, z => w233_0 c289 (fun y z => n233_0 c289 n x y z) x y z
theorem s233 (c289 : F289) (l0 : A233_0) (y) : tevF (E233 c289 l0) Tryz.f233 i233 o233 y = m233 c289 l0 y := by kernel_rfl
noncomputable def L233_0 : A233_0 := n233_0 r289 fuel
noncomputable def r233 : F233 := m233 r289 L233_0
theorem k233 : KO (g233 r233) := by
  have hE : ∀ g f, (E233 r289 L233_0).env.fns g = some f → CallOk Tryz.prog g f := fnsL_ok ⟨k289, ⟨⟩⟩
  have h0 : LoopOk Tryz.prog Tryz.f233.ntmps (loopAt (bodyOf Tryz.f233) 0) (e233_0 L233_0) := lp_ok (E := E233 r289 L233_0) rfl hE mixed (AllLoops.of_list (l := []) (by kernel_rfl) trivial) (n233_0 r289 ) (fun _ _ _ => rfl) (fun n x y z => t233_0 r289 L233_0 _ x y z) rfl
  exact fn_ok (E := E233 r289 L233_0) rfl hE mixed (by kernel_rfl) (by kernel_rfl) (AllLoops.of_list (l := [(loopAt (bodyOf Tryz.f233) 0)]) (by kernel_rfl) (.one (by kernel_rfl) h0 trivial)) (s233 r289 L233_0)
abbrev i145 : Ts := [.a q3]
abbrev o145 : Ts := [.a q12]
abbrev F145 := FT i145 o145
abbrev g145 := mkG 145 i145 o145
noncomputable def m145 (c233 : F233) (y : PTup i145) : Option (PTup o145 × BTup i145) :=
  (c233 y.1.2).bind fun r0 =>
  some (((y.1.1, r0.1), ()), ())
theorem s145 (c233 : F233) (y) : TE [g233 c233] Tryz.f145 i145 o145 y = m145 c233 y := by kernel_rfl
noncomputable def r145 : F145 := m145 r233 
theorem k145 : KO (g145 r145) := fk (s145 r233) ⟨k233, ⟨⟩⟩ (by kernel_rfl)
abbrev i66 : Ts := [.a q4]
abbrev o66 : Ts := [.a q13]
abbrev F66 := FT i66 o66
abbrev g66 := mkG 66 i66 o66
noncomputable def m66 (c144 : F144) (c91 : F91) (c145 : F145) (y : PTup i66) : Option (PTup o66 × BTup i66) :=
  (c91 ((y.1.1, (y.1.2.1, (y.1.2.2.1, (y.1.2.2.2.1, (y.1.2.2.2.2.1, (y.1.2.2.2.2.2.1, (y.1.2.2.2.2.2.2.1, (y.1.2.2.2.2.2.2.2.1, ())))))))), ())).bind fun r0 =>
  (c145 ((y.1.2.2.2.2.2.2.2.2.1, (y.1.2.2.2.2.2.2.2.2.2.1, ())), ())).bind fun r1 =>
  (c144 y.1.2.2.2.2.2.2.2.2.2.2).bind fun r2 =>
  some (((r0.1.1.1, (r0.1.1.2.1, (r0.1.1.2.2.1, (r0.1.1.2.2.2.1, (r0.1.1.2.2.2.2.1, (r0.1.1.2.2.2.2.2.1, (r0.1.1.2.2.2.2.2.2.1, (r0.1.1.2.2.2.2.2.2.2.1, (r1.1.1.1, (r1.1.1.2.1, r2.1)))))))))), ()), ())
theorem s66 (c144 : F144) (c91 : F91) (c145 : F145) (y) : TE [g144 c144, g91 c91, g145 c145] Tryz.f66 i66 o66 y = m66 c144 c91 c145 y := by kernel_rfl
noncomputable def r66 : F66 := m66 r144 r91 r145 
theorem k66 : KO (g66 r66) := fk (s66 r144 r91 r145) ⟨k144, k91, k145, ⟨⟩⟩ (by kernel_rfl)
abbrev i92 : Ts := [.a q14]
abbrev o92 : Ts := [.a q14]
abbrev F92 := FT i92 o92
abbrev g92 := mkG 92 i92 o92
noncomputable def m92 (y : PTup i92) : Option (PTup o92 × BTup i92) :=
  some ((y.1, ()), ())
theorem s92 (y) : TE [] Tryz.f92 i92 o92 y = m92 y := by kernel_rfl
noncomputable def r92 : F92 := m92 
theorem k92 : KO (g92 r92) := fk (s92 ) trivial (by kernel_rfl)
abbrev i67 : Ts := [.a q5]
abbrev o67 : Ts := [.a q15]
abbrev F67 := FT i67 o67
abbrev g67 := mkG 67 i67 o67
noncomputable def m67 (c92 : F92) (c41 : F41) (c145 : F145) (y : PTup i67) : Option (PTup o67 × BTup i67) :=
  (c92 ((y.1.1, (y.1.2.1, (y.1.2.2.1, (y.1.2.2.2.1, (y.1.2.2.2.2.1, (y.1.2.2.2.2.2.1, (y.1.2.2.2.2.2.2.1, ()))))))), ())).bind fun r0 =>
  (c145 ((y.1.2.2.2.2.2.2.2.1, (y.1.2.2.2.2.2.2.2.2.1, ())), ())).bind fun r1 =>
  (c41 y.1.2.2.2.2.2.2.2.2.2).bind fun r2 =>
  some (((r0.1.1.1, (r0.1.1.2.1, (r0.1.1.2.2.1, (r0.1.1.2.2.2.1, (r0.1.1.2.2.2.2.1, (r0.1.1.2.2.2.2.2.1, (r0.1.1.2.2.2.2.2.2.1, (r1.1.1.1, (r1.1.1.2.1, r2.1))))))))), ()), ())
theorem s67 (c92 : F92) (c41 : F41) (c145 : F145) (y) : TE [g92 c92, g41 c41, g145 c145] Tryz.f67 i67 o67 y = m67 c92 c41 c145 y := by kernel_rfl
noncomputable def r67 : F67 := m67 r92 r41 r145 
theorem k67 : KO (g67 r67) := fk (s67 r92 r41 r145) ⟨k92, k41, k145, ⟨⟩⟩ (by kernel_rfl)
abbrev i17 : Ts := [.a q6]
abbrev o17 : Ts := [.a q16]
abbrev F17 := FT i17 o17
abbrev g17 := mkG 17 i17 o17
noncomputable def m17 (c64 : F64) (c62 : F62) (c41 : F41) (c63 : F63) (c65 : F65) (c66 : F66) (c67 : F67) (y : PTup i17) : Option (PTup o17 × BTup i17) :=
  let a0 := y.1; let a1 := a0.2; let a2 := a1.2; let a3 := a2.2; let a4 := a3.2; let a5 := a4.2; let a6 := a5.2; let a7 := a6.2; let a8 := a7.2; let a9 := a8.2; let a10 := a9.2; let a11 := a10.2; let a12 := a11.2; let a13 := a12.2; let a14 := a13.2; let a15 := a14.2; let a16 := a15.2; let a17 := a16.2; let a18 := a17.2; let a19 := a18.2; let a20 := a19.2; let a21 := a20.2; let a22 := a21.2; let a23 := a22.2; let a24 := a23.2.2; let a25 := a24.2.2; (c62 ((a0.1, ()), ())).bind fun r0 =>
  (c41 (a1.1, ())).bind fun r1 =>
  (c63 ((a2.1, (a3.1, ())), ())).bind fun r2 =>
  (c64 ((a4.1, (a5.1, (a6.1, (a7.1, (a8.1, (a9.1, (a10.1, (a11.1, ())))))))), ())).bind fun r3 =>
  (c65 ((a12.1, (a13.1, ())), ())).bind fun r4 =>
  (c41 (a20.1, ())).bind fun r5 =>
  (c66 ((a21.1, (a22.1, (a23.1, (a23.2.1, (a24.1, (a24.2.1, (a25.1, (a25.2.1, (a25.2.2.1, (a25.2.2.2.1, (a25.2.2.2.2.1, ()))))))))))), ())).bind fun r6 =>
  (c67 (a25.2.2.2.2.2, ())).bind fun r7 =>
  some (((r0.1.1.1, (r1.1.1, (r2.1.1.1, (r2.1.1.2.1, (r3.1.1.1, (r3.1.1.2.1, (r3.1.1.2.2.1, (r3.1.1.2.2.2.1, (r3.1.1.2.2.2.2.1, (r3.1.1.2.2.2.2.2.1, (r3.1.1.2.2.2.2.2.2.1, (r3.1.1.2.2.2.2.2.2.2.1, (r4.1.1.1, (r4.1.1.2.1, (a14.1, (a15.1, (a16.1, (a17.1, (a18.1, (a19.1, (r5.1.1, (r6.1.1.1, (r6.1.1.2.1, (r6.1.1.2.2.1, (r6.1.1.2.2.2.1, (r6.1.1.2.2.2.2.1, (r6.1.1.2.2.2.2.2.1, (r6.1.1.2.2.2.2.2.2.1, (r6.1.1.2.2.2.2.2.2.2.1, (r6.1.1.2.2.2.2.2.2.2.2.1, (r6.1.1.2.2.2.2.2.2.2.2.2.1, (r6.1.1.2.2.2.2.2.2.2.2.2.2.1, r7.1.1)))))))))))))))))))))))))))))))), ()), ())
theorem s17 (c64 : F64) (c62 : F62) (c41 : F41) (c63 : F63) (c65 : F65) (c66 : F66) (c67 : F67) (y) : TE [g64 c64, g62 c62, g41 c41, g63 c63, g65 c65, g66 c66, g67 c67] Tryz.f17 i17 o17 y = m17 c64 c62 c41 c63 c65 c66 c67 y := by kernel_rfl
noncomputable def r17 : F17 := m17 r64 r62 r41 r63 r65 r66 r67 
theorem k17 : KO (g17 r17) := fk (s17 r64 r62 r41 r63 r65 r66 r67) ⟨k64, k62, k41, k63, k65, k66, k67, ⟨⟩⟩ (by kernel_rfl)
abbrev i132 : Ts := [.a q0]
abbrev o132 : Ts := [.a [.sl true .n]]
abbrev F132 := FT i132 o132
abbrev g132 := mkG 132 i132 o132
abbrev lc132_0 : Ts := []
abbrev lb132_0 : Ts := [.p q0, .p [.sl true .n]]
abbrev lv132_0 : Ts := [.v (.int .i64)]
abbrev lr132_0 : Ts := []
abbrev R132_0 := Option (Sum (PTup lv132_0) (PTup lr132_0) × BTup lb132_0)
abbrev B132_0 := PTup lb132_0 → PTup lv132_0 → R132_0
abbrev A132_0 := PTup lc132_0 → B132_0
noncomputable def w132_0 (again : B132_0) (x : PTup lc132_0) (y : PTup lb132_0) (z : PTup lv132_0) : R132_0 :=
  bif (ltI z.1 (lenI y.1.1)) then (bif (leI 0 z.1) then (bif (ltI z.1 (lenI y.1.1)) then (bif (leN (0 + (List.length (rdE .n y.1.1 z.1))) (E.most .i)) then (bif (leN ((List.length y.2.1.1) + (List.length (([] ++ (rdE .n y.1.1 z.1)) :: []))) (E.most .n)) then (again (y.1, (((y.2.1.1 ++ (([] ++ (rdE .n y.1.1 z.1)) :: [])), ()), ())) ((wI (z.1 + 1)), ()))
      else none)
     else none)
    else none)
   else none)
  else some ((Sum.inl z), (y.1, (y.2.1, ())))
noncomputable def e132_0 (l : A132_0) : LoopE := ⟨[], lc132_0, [1, 3], lb132_0, [4], lv132_0, [], lr132_0, 0, [], l⟩
noncomputable def m132 (l0 : A132_0) (y : PTup i132) : Option (PTup o132 × BTup i132) :=
  (l0 () (y.1, (([], ()), ())) ((0 : Int), ())).bind fun r0 =>
  sumElim r0.1 (fun r1 => some ((r0.2.2.1, ()), ()))
  (fun r1 => some ((([], ()), ()), ()))
noncomputable def E132 (l0 : A132_0) : CEnv := ⟨⟨Tryz.prog, fnsL []⟩, loopsL [(3, e132_0 l0)]⟩
theorem t132_0 (l0 : A132_0) (again) (x y z) : loopRound (E132 l0) (loopAt (bodyOf Tryz.f132) 0) (e132_0 l0) Tryz.f132.ntmps again x y z = w132_0 again x y z := by kernel_rfl
noncomputable def n132_0 : Nat → A132_0
  | 0, _, _, _ => none
  | n + 1, x, y, z => w132_0 (fun y z => n132_0 n x y z) x y z
theorem s132 (l0 : A132_0) (y) : tevF (E132 l0) Tryz.f132 i132 o132 y = m132 l0 y := by kernel_rfl
noncomputable def L132_0 : A132_0 := n132_0 fuel
noncomputable def r132 : F132 := m132 L132_0
theorem k132 : KO (g132 r132) := by
  have hE : ∀ g f, (E132 L132_0).env.fns g = some f → CallOk Tryz.prog g f := fnsL_ok trivial
  have h0 : LoopOk Tryz.prog Tryz.f132.ntmps (loopAt (bodyOf Tryz.f132) 0) (e132_0 L132_0) := lp_ok (E := E132 L132_0) rfl hE mixed (AllLoops.of_list (l := []) (by kernel_rfl) trivial) (n132_0 ) (fun _ _ _ => rfl) (fun n x y z => t132_0 L132_0 _ x y z) rfl
  exact fn_ok (E := E132 L132_0) rfl hE mixed (by kernel_rfl) (by kernel_rfl) (AllLoops.of_list (l := [(loopAt (bodyOf Tryz.f132) 0)]) (by kernel_rfl) (.one (by kernel_rfl) h0 trivial)) (s132 L132_0)
abbrev i133 : Ts := [.a q1]
abbrev o133 : Ts := [.a q7]
abbrev F133 := FT i133 o133
abbrev g133 := mkG 133 i133 o133
noncomputable def m133 (y : PTup i133) : Option (PTup o133 × BTup i133) :=
  bif (leN (0 + (List.length y.1.1)) (E.most .i)) then (some (((([] ++ y.1.1), y.1.2), ()), ()))
  else none
theorem s133 (y) : TE [] Tryz.f133 i133 o133 y = m133 y := by kernel_rfl
noncomputable def r133 : F133 := m133 
theorem k133 : KO (g133 r133) := fk (s133 ) trivial (by kernel_rfl)
abbrev i171 : Ts := [.a q2]
abbrev o171 : Ts := [.a q10]
abbrev F171 := FT i171 o171
abbrev g171 := mkG 171 i171 o171
noncomputable def m171 (y : PTup i171) : Option (PTup o171 × BTup i171) :=
  bif (leN (0 + (List.length y.1.2.2.2.2.2.2.1)) (E.most .i)) then (bif (leN (0 + (List.length y.1.2.2.2.2.2.2.2.1)) (E.most .i)) then (some (((y.1.1, (y.1.2.1, (y.1.2.2.1, (y.1.2.2.2.1, (y.1.2.2.2.2.1, (y.1.2.2.2.2.2.1, (([] ++ y.1.2.2.2.2.2.2.1), (([] ++ y.1.2.2.2.2.2.2.2.1), ())))))))), ()), ()))
   else none)
  else none
theorem s171 (y) : TE [] Tryz.f171 i171 o171 y = m171 y := by kernel_rfl
noncomputable def r171 : F171 := m171 
theorem k171 : KO (g171 r171) := fk (s171 ) trivial (by kernel_rfl)
abbrev i230 : Ts := [.a q3]
abbrev o230 : Ts := [.a q12]
abbrev F230 := FT i230 o230
abbrev g230 := mkG 230 i230 o230
noncomputable def m230 (y : PTup i230) : Option (PTup o230 × BTup i230) :=
  bif (leN (0 + (List.length y.1.2.1)) (E.most .t)) then (some (((y.1.1, (([] ++ y.1.2.1), ())), ()), ()))
  else none
theorem s230 (y) : TE [] Tryz.f230 i230 o230 y = m230 y := by kernel_rfl
noncomputable def r230 : F230 := m230 
theorem k230 : KO (g230 r230) := fk (s230 ) trivial (by kernel_rfl)
abbrev i172 : Ts := [.v (.sl false .n)]
abbrev o172 : Ts := [.v (.sl true .n)]
abbrev F172 := FT i172 o172
abbrev g172 := mkG 172 i172 o172
abbrev lc172_0 : Ts := [.v (.sl false .n)]
abbrev lb172_0 : Ts := []
abbrev lv172_0 : Ts := [.v (.sl true .n), .v (.int .i64)]
abbrev lr172_0 : Ts := []
abbrev R172_0 := Option (Sum (PTup lv172_0) (PTup lr172_0) × BTup lb172_0)
abbrev B172_0 := PTup lb172_0 → PTup lv172_0 → R172_0
abbrev A172_0 := PTup lc172_0 → B172_0
noncomputable def w172_0 (again : B172_0) (x : PTup lc172_0) (y : PTup lb172_0) (z : PTup lv172_0) : R172_0 :=
  bif (ltI z.2.1 (lenI x.1)) then (bif (leI 0 z.2.1) then (bif (ltI z.2.1 (lenI x.1)) then (bif (leN (0 + (List.length (rdE .n x.1 z.2.1))) (E.most .i)) then (bif (leN ((List.length z.1) + (List.length (([] ++ (rdE .n x.1 z.2.1)) :: []))) (E.most .n)) then (again () ((z.1 ++ (([] ++ (rdE .n x.1 z.2.1)) :: [])), ((wI (z.2.1 + 1)), ())))
      else none)
     else none)
    else none)
   else none)
  else some ((Sum.inl z), ())
noncomputable def e172_0 (l : A172_0) : LoopE := ⟨[0], lc172_0, [], lb172_0, [3, 4], lv172_0, [], lr172_0, 0, [], l⟩
noncomputable def m172 (l0 : A172_0) (y : PTup i172) : Option (PTup o172 × BTup i172) :=
  (l0 y () ([], ((0 : Int), ()))).bind fun r0 =>
  sumElim r0.1 (fun r1 => some ((r1.1, ()), ()))
  (fun r1 => some (([], ()), ()))
noncomputable def E172 (l0 : A172_0) : CEnv := ⟨⟨Tryz.prog, fnsL []⟩, loopsL [(3, e172_0 l0)]⟩
theorem t172_0 (l0 : A172_0) (again) (x y z) : loopRound (E172 l0) (loopAt (bodyOf Tryz.f172) 0) (e172_0 l0) Tryz.f172.ntmps again x y z = w172_0 again x y z := by kernel_rfl
noncomputable def n172_0 : Nat → A172_0
  | 0, _, _, _ => none
  | n + 1, x, y, z => w172_0 (fun y z => n172_0 n x y z) x y z
theorem s172 (l0 : A172_0) (y) : tevF (E172 l0) Tryz.f172 i172 o172 y = m172 l0 y := by kernel_rfl
noncomputable def L172_0 : A172_0 := n172_0 fuel
noncomputable def r172 : F172 := m172 L172_0
theorem k172 : KO (g172 r172) := by
  have hE : ∀ g f, (E172 L172_0).env.fns g = some f → CallOk Tryz.prog g f := fnsL_ok trivial
  have h0 : LoopOk Tryz.prog Tryz.f172.ntmps (loopAt (bodyOf Tryz.f172) 0) (e172_0 L172_0) := lp_ok (E := E172 L172_0) rfl hE mixed (AllLoops.of_list (l := []) (by kernel_rfl) trivial) (n172_0 ) (fun _ _ _ => rfl) (fun n x y z => t172_0 L172_0 _ x y z) rfl
  exact fn_ok (E := E172 L172_0) rfl hE mixed (by kernel_rfl) (by kernel_rfl) (AllLoops.of_list (l := [(loopAt (bodyOf Tryz.f172) 0)]) (by kernel_rfl) (.one (by kernel_rfl) h0 trivial)) (s172 L172_0)
abbrev i134 : Ts := [.a q4]
abbrev o134 : Ts := [.a q13]
abbrev F134 := FT i134 o134
abbrev g134 := mkG 134 i134 o134
noncomputable def m134 (c172 : F172) (c230 : F230) (c171 : F171) (y : PTup i134) : Option (PTup o134 × BTup i134) :=
  (c171 ((y.1.1, (y.1.2.1, (y.1.2.2.1, (y.1.2.2.2.1, (y.1.2.2.2.2.1, (y.1.2.2.2.2.2.1, (y.1.2.2.2.2.2.2.1, (y.1.2.2.2.2.2.2.2.1, ())))))))), ())).bind fun r0 =>
  (c230 ((y.1.2.2.2.2.2.2.2.2.1, (y.1.2.2.2.2.2.2.2.2.2.1, ())), ())).bind fun r1 =>
  (c172 y.1.2.2.2.2.2.2.2.2.2.2).bind fun r2 =>
  some (((r0.1.1.1, (r0.1.1.2.1, (r0.1.1.2.2.1, (r0.1.1.2.2.2.1, (r0.1.1.2.2.2.2.1, (r0.1.1.2.2.2.2.2.1, (r0.1.1.2.2.2.2.2.2.1, (r0.1.1.2.2.2.2.2.2.2.1, (r1.1.1.1, (r1.1.1.2.1, r2.1)))))))))), ()), ())
theorem s134 (c172 : F172) (c230 : F230) (c171 : F171) (y) : TE [g172 c172, g230 c230, g171 c171] Tryz.f134 i134 o134 y = m134 c172 c230 c171 y := by kernel_rfl
noncomputable def r134 : F134 := m134 r172 r230 r171 
theorem k134 : KO (g134 r134) := fk (s134 r172 r230 r171) ⟨k172, k230, k171, ⟨⟩⟩ (by kernel_rfl)
abbrev i135 : Ts := [.a q5]
abbrev o135 : Ts := [.a q15]
abbrev F135 := FT i135 o135
abbrev g135 := mkG 135 i135 o135
noncomputable def m135 (c230 : F230) (y : PTup i135) : Option (PTup o135 × BTup i135) :=
  (c230 ((y.1.2.2.2.2.2.2.2.1, (y.1.2.2.2.2.2.2.2.2.1, ())), ())).bind fun r0 =>
  bif (leN (0 + (List.length y.1.2.2.2.2.2.2.2.2.2.1)) (E.most .i)) then (some (((y.1.1, (y.1.2.1, (y.1.2.2.1, (y.1.2.2.2.1, (y.1.2.2.2.2.1, (y.1.2.2.2.2.2.1, (y.1.2.2.2.2.2.2.1, (r0.1.1.1, (r0.1.1.2.1, (([] ++ y.1.2.2.2.2.2.2.2.2.2.1), ())))))))))), ()), ()))
  else none
theorem s135 (c230 : F230) (y) : TE [g230 c230] Tryz.f135 i135 o135 y = m135 c230 y := by kernel_rfl
noncomputable def r135 : F135 := m135 r230 
theorem k135 : KO (g135 r135) := fk (s135 r230) ⟨k230, ⟨⟩⟩ (by kernel_rfl)
abbrev i58 : Ts := [.a q6]
abbrev o58 : Ts := [.a q16]
abbrev F58 := FT i58 o58
abbrev g58 := mkG 58 i58 o58
noncomputable def m58 (c132 : F132) (c134 : F134) (c135 : F135) (c133 : F133) (y : PTup i58) : Option (PTup o58 × BTup i58) :=
  let a0 := y.1; let a1 := a0.2; let a2 := a1.2; let a3 := a2.2; let a4 := a3.2; let a5 := a4.2; let a6 := a5.2; let a7 := a6.2; let a8 := a7.2; let a9 := a8.2; let a10 := a9.2; let a11 := a10.2; let a12 := a11.2; let a13 := a12.2; let a14 := a13.2; let a15 := a14.2; let a16 := a15.2; let a17 := a16.2; let a18 := a17.2; let a19 := a18.2; let a20 := a19.2; let a21 := a20.2; let a22 := a21.2; let a23 := a22.2; let a24 := a23.2.2; let a25 := a24.2.2; (c132 ((a0.1, ()), ())).bind fun r0 =>
  bif (leN (0 + (List.length a1.1)) (E.most .i)) then ((c133 ((a2.1, (a3.1, ())), ())).bind fun r1 =>
   bif (leN (0 + (List.length a20.1)) (E.most .i)) then ((c134 ((a21.1, (a22.1, (a23.1, (a23.2.1, (a24.1, (a24.2.1, (a25.1, (a25.2.1, (a25.2.2.1, (a25.2.2.2.1, (a25.2.2.2.2.1, ()))))))))))), ())).bind fun r2 =>
    (c135 (a25.2.2.2.2.2, ())).bind fun r3 =>
    some (((r0.1.1.1, (([] ++ a1.1), (r1.1.1.1, (r1.1.1.2.1, (a4.1, (a5.1, (a6.1, (a7.1, (a8.1, (a9.1, (a10.1, (a11.1, (a12.1, (a13.1, (a14.1, (a15.1, (a16.1, (a17.1, (a18.1, (a19.1, (([] ++ a20.1), (r2.1.1.1, (r2.1.1.2.1, (r2.1.1.2.2.1, (r2.1.1.2.2.2.1, (r2.1.1.2.2.2.2.1, (r2.1.1.2.2.2.2.2.1, (r2.1.1.2.2.2.2.2.2.1, (r2.1.1.2.2.2.2.2.2.2.1, (r2.1.1.2.2.2.2.2.2.2.2.1, (r2.1.1.2.2.2.2.2.2.2.2.2.1, (r2.1.1.2.2.2.2.2.2.2.2.2.2.1, r3.1.1)))))))))))))))))))))))))))))))), ()), ()))
   else none)
  else none
theorem s58 (c132 : F132) (c134 : F134) (c135 : F135) (c133 : F133) (y) : TE [g132 c132, g134 c134, g135 c135, g133 c133] Tryz.f58 i58 o58 y = m58 c132 c134 c135 c133 y := by kernel_rfl
noncomputable def r58 : F58 := m58 r132 r134 r135 r133 
theorem k58 : KO (g58 r58) := fk (s58 r132 r134 r135 r133) ⟨k132, k134, k135, k133, ⟨⟩⟩ (by kernel_rfl)
abbrev i142 : Ts := [.v (.int .i64), .v (.int .i64), .v (.int .i64)]
abbrev o142 : Ts := [.v (.bool)]
abbrev F142 := FT i142 o142
abbrev g142 := mkG 142 i142 o142
noncomputable def m142 (y : PTup i142) : Option (PTup o142 × BTup i142) :=
  bif (leI y.2.1 y.1) then (some (((leI y.1 y.2.2.1), ()), ()))
  else no
theorem s142 (y) : TE [] Tryz.f142 i142 o142 y = m142 y := by kernel_rfl
noncomputable def r142 : F142 := m142 
theorem k142 : KO (g142 r142) := fk (s142 ) trivial (by kernel_rfl)
abbrev i141 : Ts := [.v (.int .i64)]
abbrev o141 : Ts := [.v (.bool)]
abbrev F141 := FT i141 o141
abbrev g141 := mkG 141 i141 o141
noncomputable def m141 (c142 : F142) (y : PTup i141) : Option (PTup o141 × BTup i141) :=
  (c142 (y.1, ((0 : Int), ((255 : Int), ())))).bind fun r0 =>
  some (r0.1, ())
theorem s141 (c142 : F142) (y) : TE [g142 c142] Tryz.f141 i141 o141 y = m141 c142 y := by kernel_rfl
noncomputable def r141 : F141 := m141 r142 
theorem k141 : KO (g141 r141) := fk (s141 r142) ⟨k142, ⟨⟩⟩ (by kernel_rfl)
abbrev i136 : Ts := [.v (.sl false .i)]
abbrev o136 : Ts := [.v (.bool)]
abbrev F136 := FT i136 o136
abbrev g136 := mkG 136 i136 o136
abbrev lc136_0 : Ts := [.v (.sl false .i)]
abbrev lb136_0 : Ts := []
abbrev lv136_0 : Ts := [.v (.int .i64)]
abbrev lr136_0 : Ts := [.v (.bool)]
abbrev R136_0 := Option (Sum (PTup lv136_0) (PTup lr136_0) × BTup lb136_0)
abbrev B136_0 := PTup lb136_0 → PTup lv136_0 → R136_0
abbrev A136_0 := PTup lc136_0 → B136_0
noncomputable def w136_0 (c141 : F141) (again : B136_0) (x : PTup lc136_0) (y : PTup lb136_0) (z : PTup lv136_0) : R136_0 :=
  bif (ltI z.1 (lenI x.1)) then (bif (leI 0 z.1) then (bif (ltI z.1 (lenI x.1)) then ((c141 ((rdE .i x.1 z.1), ())).bind fun r0 =>
     bif (!r0.1.1) then (some ((Sum.inr (false, ())), ()))
     else again () ((wI (z.1 + 1)), ()))
    else none)
   else none)
  else some ((Sum.inl z), ())
noncomputable def e136_0 (l : A136_0) : LoopE := ⟨[0], lc136_0, [], lb136_0, [3], lv136_0, [2], lr136_0, 0, [], l⟩
noncomputable def m136 (c141 : F141) (l0 : A136_0) (y : PTup i136) : Option (PTup o136 × BTup i136) :=
  (l0 y () ((0 : Int), ())).bind fun r0 =>
  sumElim r0.1 (fun r1 => some (((leI (lenI y.1) 20), ()), ()))
  (fun r1 => some (r1, ()))
noncomputable def E136 (c141 : F141) (l0 : A136_0) : CEnv := ⟨⟨Tryz.prog, fnsL [g141 c141]⟩, loopsL [(2, e136_0 l0)]⟩
theorem t136_0 (c141 : F141) (l0 : A136_0) (again) (x y z) : loopRound (E136 c141 l0) (loopAt (bodyOf Tryz.f136) 0) (e136_0 l0) Tryz.f136.ntmps again x y z = w136_0 c141 again x y z := by kernel_rfl
noncomputable def n136_0 (c141 : F141) : Nat → A136_0
  | 0, _, _, _ => none
  | n + 1, x, y, z => w136_0 c141 (fun y z => n136_0 c141 n x y z) x y z
theorem s136 (c141 : F141) (l0 : A136_0) (y) : tevF (E136 c141 l0) Tryz.f136 i136 o136 y = m136 c141 l0 y := by kernel_rfl
noncomputable def L136_0 : A136_0 := n136_0 r141 fuel
noncomputable def r136 : F136 := m136 r141 L136_0
theorem k136 : KO (g136 r136) := by
  have hE : ∀ g f, (E136 r141 L136_0).env.fns g = some f → CallOk Tryz.prog g f := fnsL_ok ⟨k141, ⟨⟩⟩
  have h0 : LoopOk Tryz.prog Tryz.f136.ntmps (loopAt (bodyOf Tryz.f136) 0) (e136_0 L136_0) := lp_ok (E := E136 r141 L136_0) rfl hE mixed (AllLoops.of_list (l := []) (by kernel_rfl) trivial) (n136_0 r141 ) (fun _ _ _ => rfl) (fun n x y z => t136_0 r141 L136_0 _ x y z) rfl
  exact fn_ok (E := E136 r141 L136_0) rfl hE mixed (by kernel_rfl) (by kernel_rfl) (AllLoops.of_list (l := [(loopAt (bodyOf Tryz.f136) 0)]) (by kernel_rfl) (.one (by kernel_rfl) h0 trivial)) (s136 r141 L136_0)
abbrev i231 : Ts := [.a q0]
abbrev o231 : Ts := [.v (.bool)]
abbrev F231 := FT i231 o231
abbrev g231 := mkG 231 i231 o231
abbrev lc231_0 : Ts := [.v (.int .i64)]
abbrev lb231_0 : Ts := [.p q0]
abbrev lv231_0 : Ts := [.v (.int .i64)]
abbrev lr231_0 : Ts := [.v (.bool)]
abbrev R231_0 := Option (Sum (PTup lv231_0) (PTup lr231_0) × BTup lb231_0)
abbrev B231_0 := PTup lb231_0 → PTup lv231_0 → R231_0
abbrev A231_0 := PTup lc231_0 → B231_0
noncomputable def w231_0 (c142 : F142) (again : B231_0) (x : PTup lc231_0) (y : PTup lb231_0) (z : PTup lv231_0) : R231_0 :=
  bif (ltI z.1 256) then (bif (leI 0 x.1) then (bif (ltI x.1 (lenI y.1.1)) then (bif (leI 0 z.1) then (bif (ltI z.1 (lenI (rdE .n y.1.1 x.1))) then ((c142 ((rdI (rdE .n y.1.1 x.1) z.1), ((0 : Int), ((255 : Int), ())))).bind fun r0 =>
       bif (!r0.1.1) then (some ((Sum.inr (false, ())), (y.1, ())))
       else again (y.1, ()) ((wI (z.1 + 1)), ()))
      else none)
     else none)
    else none)
   else none)
  else some ((Sum.inl z), (y.1, ()))
noncomputable def e231_0 (l : A231_0) : LoopE := ⟨[3], lc231_0, [1], lb231_0, [4], lv231_0, [2], lr231_0, 2, [], l⟩
abbrev lc231_1 : Ts := []
abbrev lb231_1 : Ts := [.p q0]
abbrev lv231_1 : Ts := [.v (.int .i64)]
abbrev lr231_1 : Ts := [.v (.bool)]
abbrev R231_1 := Option (Sum (PTup lv231_1) (PTup lr231_1) × BTup lb231_1)
abbrev B231_1 := PTup lb231_1 → PTup lv231_1 → R231_1
abbrev A231_1 := PTup lc231_1 → B231_1
noncomputable def w231_1 (c142 : F142) (l0 : A231_0) (again : B231_1) (x : PTup lc231_1) (y : PTup lb231_1) (z : PTup lv231_1) : R231_1 :=
  bif (ltI z.1 (lenI y.1.1)) then (bif (leI 0 z.1) then (bif (ltI z.1 (lenI y.1.1)) then (bif (neI (lenI (rdE .n y.1.1 z.1)) (256 : Int)) then (some ((Sum.inr (false, ())), (y.1, ())))
     else (l0 z (y.1, ()) ((0 : Int), ())).bind fun r0 =>
     sumElim r0.1 (fun r1 => again (y.1, ()) ((wI (z.1 + 1)), ()))
     (fun r1 => some ((Sum.inr r1), (y.1, ()))))
    else none)
   else none)
  else some ((Sum.inl z), (y.1, ()))
noncomputable def e231_1 (l : A231_1) : LoopE := ⟨[], lc231_1, [1], lb231_1, [3], lv231_1, [2], lr231_1, 0, [], l⟩
noncomputable def m231 (c142 : F142) (l0 : A231_0) (l1 : A231_1) (y : PTup i231) : Option (PTup o231 × BTup i231) :=
  (l1 () (y.1, ()) ((0 : Int), ())).bind fun r0 =>
  sumElim r0.1 (fun r1 => (c142 ((lenI y.1.1), ((1 : Int), ((8 : Int), ())))).bind fun r2 =>
   some (r2.1, ()))
  (fun r1 => some (r1, ()))
noncomputable def E231 (c142 : F142) (l0 : A231_0) (l1 : A231_1) : CEnv := ⟨⟨Tryz.prog, fnsL [g142 c142]⟩, loopsL [(7, e231_0 l0), (2, e231_1 l1)]⟩
theorem t231_0 (c142 : F142) (l0 : A231_0) (l1 : A231_1) (again) (x y z) : loopRound (E231 c142 l0 l1) (loopAt (loopAt (bodyOf Tryz.f231) 0) 0) (e231_0 l0) Tryz.f231.ntmps again x y z = w231_0 c142 again x y z := by kernel_rfl
noncomputable def n231_0 (c142 : F142) : Nat → A231_0
  | 0, _, _, _ => none
  | n + 1, x, y, z => w231_0 c142 (fun y z => n231_0 c142 n x y z) x y z
theorem t231_1 (c142 : F142) (l0 : A231_0) (l1 : A231_1) (again) (x y z) : loopRound (E231 c142 l0 l1) (loopAt (bodyOf Tryz.f231) 0) (e231_1 l1) Tryz.f231.ntmps again x y z = w231_1 c142 l0 again x y z := by kernel_rfl
noncomputable def n231_1 (c142 : F142) (l0 : A231_0) : Nat → A231_1
  | 0, _, _, _ => none
  | n + 1, x, y, z => w231_1 c142 l0 (fun y z => n231_1 c142 l0 n x y z) x y z
theorem s231 (c142 : F142) (l0 : A231_0) (l1 : A231_1) (y) : tevF (E231 c142 l0 l1) Tryz.f231 i231 o231 y = m231 c142 l0 l1 y := by kernel_rfl
noncomputable def L231_0 : A231_0 := n231_0 r142 fuel
noncomputable def L231_1 : A231_1 := n231_1 r142 L231_0 fuel
noncomputable def r231 : F231 := m231 r142 L231_0 L231_1
theorem k231 : KO (g231 r231) := by
  have hE : ∀ g f, (E231 r142 L231_0 L231_1).env.fns g = some f → CallOk Tryz.prog g f := fnsL_ok ⟨k142, ⟨⟩⟩
  have h0 : LoopOk Tryz.prog Tryz.f231.ntmps (loopAt (loopAt (bodyOf Tryz.f231) 0) 0) (e231_0 L231_0) := lp_ok (E := E231 r142 L231_0 L231_1) rfl hE mixed (AllLoops.of_list (l := []) (by kernel_rfl) trivial) (n231_0 r142 ) (fun _ _ _ => rfl) (fun n x y z => t231_0 r142 L231_0 L231_1 _ x y z) rfl
  have h1 : LoopOk Tryz.prog Tryz.f231.ntmps (loopAt (bodyOf Tryz.f231) 0) (e231_1 L231_1) := lp_ok (E := E231 r142 L231_0 L231_1) rfl hE mixed (AllLoops.of_list (l := [(loopAt (loopAt (bodyOf Tryz.f231) 0) 0)]) (by kernel_rfl) (.one (by kernel_rfl) h0 trivial)) (n231_1 r142 L231_0) (fun _ _ _ => rfl) (fun n x y z => t231_1 r142 L231_0 L231_1 _ x y z) rfl
  exact fn_ok (E := E231 r142 L231_0 L231_1) rfl hE mixed (by kernel_rfl) (by kernel_rfl) (AllLoops.of_list (l := [(loopAt (bodyOf Tryz.f231) 0)]) (by kernel_rfl) (.one (by kernel_rfl) h1 trivial)) (s231 r142 L231_0 L231_1)
abbrev i137 : Ts := [.a q0, .a q1]
abbrev o137 : Ts := [.v (.bool)]
abbrev F137 := FT i137 o137
abbrev g137 := mkG 137 i137 o137
abbrev lc137_0 : Ts := []
abbrev lb137_0 : Ts := [.p q1]
abbrev lv137_0 : Ts := [.v (.int .i64)]
abbrev lr137_0 : Ts := [.v (.bool)]
abbrev R137_0 := Option (Sum (PTup lv137_0) (PTup lr137_0) × BTup lb137_0)
abbrev B137_0 := PTup lb137_0 → PTup lv137_0 → R137_0
abbrev A137_0 := PTup lc137_0 → B137_0
noncomputable def w137_0 (c231 : F231) (c142 : F142) (c141 : F141) (again : B137_0) (x : PTup lc137_0) (y : PTup lb137_0) (z : PTup lv137_0) : R137_0 :=
  bif (ltI z.1 512) then (bif (leI 0 z.1) then (bif (ltI z.1 (lenI y.1.1)) then ((c141 ((rdE .i y.1.1 z.1), ())).bind fun r0 =>
     bif (!r0.1.1) then (some ((Sum.inr (false, ())), (y.1, ())))
     else again (y.1, ()) ((wI (z.1 + 1)), ()))
    else none)
   else none)
  else some ((Sum.inl z), (y.1, ()))
noncomputable def e137_0 (l : A137_0) : LoopE := ⟨[], lc137_0, [3], lb137_0, [5], lv137_0, [4], lr137_0, 0, [], l⟩
noncomputable def m137 (c231 : F231) (c142 : F142) (c141 : F141) (l0 : A137_0) (y : PTup i137) : Option (PTup o137 × BTup i137) :=
  (c231 (y.1, ())).bind fun r0 =>
  bif (!r0.1.1) then no
  else bif (neI (lenI y.2.1.1) 512) then no
  else (c142 (y.2.1.2.1, ((0 : Int), ((wI ((lenI y.1.1) - 1)), ())))).bind fun r1 =>
  bif (!r1.1.1) then no
  else (l0 () (y.2.1, ()) ((0 : Int), ())).bind fun r2 =>
  sumElim r2.1 (fun r3 => some ((true, ()), ()))
  (fun r3 => some (r3, ()))
noncomputable def E137 (c231 : F231) (c142 : F142) (c141 : F141) (l0 : A137_0) : CEnv := ⟨⟨Tryz.prog, fnsL [g231 c231, g142 c142, g141 c141]⟩, loopsL [(4, e137_0 l0)]⟩
theorem t137_0 (c231 : F231) (c142 : F142) (c141 : F141) (l0 : A137_0) (again) (x y z) : loopRound (E137 c231 c142 c141 l0) (loopAt (bodyOf Tryz.f137) 0) (e137_0 l0) Tryz.f137.ntmps again x y z = w137_0 c231 c142 c141 again x y z := by kernel_rfl
noncomputable def n137_0 (c231 : F231) (c142 : F142) (c141 : F141) : Nat → A137_0
  | 0, _, _, _ => none
  | n + 1, x, y, z => w137_0 c231 c142 c141 (fun y z => n137_0 c231 c142 c141 n x y z) x y z
theorem s137 (c231 : F231) (c142 : F142) (c141 : F141) (l0 : A137_0) (y) : tevF (E137 c231 c142 c141 l0) Tryz.f137 i137 o137 y = m137 c231 c142 c141 l0 y := by kernel_rfl
noncomputable def L137_0 : A137_0 := n137_0 r231 r142 r141 fuel
noncomputable def r137 : F137 := m137 r231 r142 r141 L137_0
theorem k137 : KO (g137 r137) := by
  have hE : ∀ g f, (E137 r231 r142 r141 L137_0).env.fns g = some f → CallOk Tryz.prog g f := fnsL_ok ⟨k231, k142, k141, ⟨⟩⟩
  have h0 : LoopOk Tryz.prog Tryz.f137.ntmps (loopAt (bodyOf Tryz.f137) 0) (e137_0 L137_0) := lp_ok (E := E137 r231 r142 r141 L137_0) rfl hE mixed (AllLoops.of_list (l := []) (by kernel_rfl) trivial) (n137_0 r231 r142 r141 ) (fun _ _ _ => rfl) (fun n x y z => t137_0 r231 r142 r141 L137_0 _ x y z) rfl
  exact fn_ok (E := E137 r231 r142 r141 L137_0) rfl hE mixed (by kernel_rfl) (by kernel_rfl) (AllLoops.of_list (l := [(loopAt (bodyOf Tryz.f137) 0)]) (by kernel_rfl) (.one (by kernel_rfl) h0 trivial)) (s137 r231 r142 r141 L137_0)
abbrev i138 : Ts := [.a q8]
abbrev o138 : Ts := [.v (.bool)]
abbrev F138 := FT i138 o138
abbrev g138 := mkG 138 i138 o138
noncomputable def m138 (c142 : F142) (c141 : F141) (y : PTup i138) : Option (PTup o138 × BTup i138) :=
  (c141 (y.1.1, ())).bind fun r0 =>
  bif r0.1.1 then ((c141 (y.1.2.1, ())).bind fun r1 =>
   bif r1.1.1 then ((c141 (y.1.2.2.1, ())).bind fun r2 =>
    bif r2.1.1 then ((c142 (y.1.2.2.2.1, ((0 : Int), ((65535 : Int), ())))).bind fun r3 =>
     some (r3.1, ()))
    else no)
   else no)
  else no
theorem s138 (c142 : F142) (c141 : F141) (y) : TE [g142 c142, g141 c141] Tryz.f138 i138 o138 y = m138 c142 c141 y := by kernel_rfl
noncomputable def r138 : F138 := m138 r142 r141 
theorem k138 : KO (g138 r138) := fk (s138 r142 r141) ⟨k142, k141, ⟨⟩⟩ (by kernel_rfl)
abbrev i241 : Ts := [.v (.int .i64)]
abbrev o241 : Ts := [.v (.int .i64)]
abbrev F241 := FT i241 o241
abbrev g241 := mkG 241 i241 o241
noncomputable def m241 (y : PTup i241) : Option (PTup o241 × BTup i241) :=
  bif (ltI 48 (Int.tmod y.1 64)) then (some (((0 : Int), ()), ()))
  else some (((Int.tmod y.1 64), ()), ())
theorem s241 (y) : TE [] Tryz.f241 i241 o241 y = m241 y := by kernel_rfl
noncomputable def r241 : F241 := m241 
theorem k241 : KO (g241 r241) := fk (s241 ) trivial (by kernel_rfl)
abbrev i168 : Ts := [.a q2]
abbrev o168 : Ts := [.v (.bool)]
abbrev F168 := FT i168 o168
abbrev g168 := mkG 168 i168 o168
abbrev lc168_0 : Ts := []
abbrev lb168_0 : Ts := [.p q2]
abbrev lv168_0 : Ts := [.v (.int .i64)]
abbrev lr168_0 : Ts := [.v (.bool)]
abbrev R168_0 := Option (Sum (PTup lv168_0) (PTup lr168_0) × BTup lb168_0)
abbrev B168_0 := PTup lb168_0 → PTup lv168_0 → R168_0
abbrev A168_0 := PTup lc168_0 → B168_0
noncomputable def w168_0 (c142 : F142) (c141 : F141) (c241 : F241) (again : B168_0) (x : PTup lc168_0) (y : PTup lb168_0) (z : PTup lv168_0) : R168_0 :=
  bif (ltI z.1 (lenI y.1.2.2.2.2.2.2.2.1)) then (bif (leI 0 z.1) then (bif (ltI z.1 (lenI y.1.2.2.2.2.2.2.2.1)) then ((c142 ((rdE .i y.1.2.2.2.2.2.2.2.1 z.1), ((0 : Int), ((63 : Int), ())))).bind fun r0 =>
     bif (!r0.1.1) then (some ((Sum.inr (false, ())), (y.1, ())))
     else again (y.1, ()) ((wI (z.1 + 1)), ()))
    else none)
   else none)
  else some ((Sum.inl z), (y.1, ()))
noncomputable def e168_0 (l : A168_0) : LoopE := ⟨[], lc168_0, [1], lb168_0, [4], lv168_0, [2], lr168_0, 2, [], l⟩
abbrev lc168_1 : Ts := []
abbrev lb168_1 : Ts := [.p q2]
abbrev lv168_1 : Ts := [.v (.int .i64)]
abbrev lr168_1 : Ts := [.v (.bool)]
abbrev R168_1 := Option (Sum (PTup lv168_1) (PTup lr168_1) × BTup lb168_1)
abbrev B168_1 := PTup lb168_1 → PTup lv168_1 → R168_1
abbrev A168_1 := PTup lc168_1 → B168_1
noncomputable def w168_1 (c142 : F142) (c141 : F141) (c241 : F241) (l0 : A168_0) (again : B168_1) (x : PTup lc168_1) (y : PTup lb168_1) (z : PTup lv168_1) : R168_1 :=
  bif (ltI z.1 16) then (bif (leI 0 z.1) then (bif (ltI z.1 (lenI y.1.2.2.2.2.2.2.1)) then ((c142 ((rdE .i y.1.2.2.2.2.2.2.1 z.1), ((0 : Int), ((63 : Int), ())))).bind fun r0 =>
     bif (!r0.1.1) then (some ((Sum.inr (false, ())), (y.1, ())))
     else again (y.1, ()) ((wI (z.1 + 1)), ()))
    else none)
   else none)
  else some ((Sum.inl z), (y.1, ()))
noncomputable def e168_1 (l : A168_1) : LoopE := ⟨[], lc168_1, [1], lb168_1, [3], lv168_1, [2], lr168_1, 0, [], l⟩
noncomputable def m168 (c142 : F142) (c141 : F141) (c241 : F241) (l0 : A168_0) (l1 : A168_1) (y : PTup i168) : Option (PTup o168 × BTup i168) :=
  (c142 (y.1.1, ((0 : Int), ((20000 : Int), ())))).bind fun r0 =>
  bif (!r0.1.1) then no
  else (c141 (y.1.2.1, ())).bind fun r1 =>
  bif (!r1.1.1) then no
  else (c141 (y.1.2.2.1, ())).bind fun r2 =>
  bif (!r2.1.1) then no
  else (c142 (y.1.2.2.2.1, ((0 : Int), ((15 : Int), ())))).bind fun r3 =>
  bif (!r3.1.1) then no
  else (c142 (y.1.2.2.2.2.1, ((0 : Int), ((63 : Int), ())))).bind fun r4 =>
  bif (!r4.1.1) then no
  else bif (neI (lenI y.1.2.2.2.2.2.2.1) 16) then no
  else (c241 (y.1.1, ())).bind fun r5 =>
  bif (neI (lenI y.1.2.2.2.2.2.2.2.1) r5.1.1) then no
  else (l1 () (y.1, ()) ((0 : Int), ())).bind fun r6 =>
  sumElim r6.1 (fun r7 => (l0 () ((r6.2.1.1, (r6.2.1.2.1, (r6.2.1.2.2.1, (r6.2.1.2.2.2.1, (r6.2.1.2.2.2.2.1, (r6.2.1.2.2.2.2.2.1, y.1.2.2.2.2.2.2)))))), ()) ((0 : Int), ())).bind fun r8 =>
   sumElim r8.1 (fun r9 => some ((true, ()), ()))
   (fun r9 => some (r9, ())))
  (fun r7 => some (r7, ()))
noncomputable def E168 (c142 : F142) (c141 : F141) (c241 : F241) (l0 : A168_0) (l1 : A168_1) : CEnv := ⟨⟨Tryz.prog, fnsL [g142 c142, g141 c141, g241 c241]⟩, loopsL [(9, e168_0 l0), (4, e168_1 l1)]⟩
theorem t168_0 (c142 : F142) (c141 : F141) (c241 : F241) (l0 : A168_0) (l1 : A168_1) (again) (x y z) : loopRound (E168 c142 c141 c241 l0 l1) (loopAt (bodyOf Tryz.f168) 1) (e168_0 l0) Tryz.f168.ntmps again x y z = w168_0 c142 c141 c241 again x y z := by kernel_rfl
noncomputable def n168_0 (c142 : F142) (c141 : F141) (c241 : F241) : Nat → A168_0
  | 0, _, _, _ => none
  | n + 1, x, y, z => w168_0 c142 c141 c241 (fun y z => n168_0 c142 c141 c241 n x y z) x y z
theorem t168_1 (c142 : F142) (c141 : F141) (c241 : F241) (l0 : A168_0) (l1 : A168_1) (again) (x y z) : loopRound (E168 c142 c141 c241 l0 l1) (loopAt (bodyOf Tryz.f168) 0) (e168_1 l1) Tryz.f168.ntmps again x y z = w168_1 c142 c141 c241 l0 again x y z := by kernel_rfl
noncomputable def n168_1 (c142 : F142) (c141 : F141) (c241 : F241) (l0 : A168_0) : Nat → A168_1
  | 0, _, _, _ => none
  | n + 1, x, y, z => w168_1 c142 c141 c241 l0 (fun y z => n168_1 c142 c141 c241 l0 n x y z) x y z
theorem s168 (c142 : F142) (c141 : F141) (c241 : F241) (l0 : A168_0) (l1 : A168_1) (y) : tevF (E168 c142 c141 c241 l0 l1) Tryz.f168 i168 o168 y = m168 c142 c141 c241 l0 l1 y := by kernel_rfl
noncomputable def L168_0 : A168_0 := n168_0 r142 r141 r241 fuel
noncomputable def L168_1 : A168_1 := n168_1 r142 r141 r241 L168_0 fuel
noncomputable def r168 : F168 := m168 r142 r141 r241 L168_0 L168_1
theorem k168 : KO (g168 r168) := by
  have hE : ∀ g f, (E168 r142 r141 r241 L168_0 L168_1).env.fns g = some f → CallOk Tryz.prog g f := fnsL_ok ⟨k142, k141, k241, ⟨⟩⟩
  have h0 : LoopOk Tryz.prog Tryz.f168.ntmps (loopAt (bodyOf Tryz.f168) 1) (e168_0 L168_0) := lp_ok (E := E168 r142 r141 r241 L168_0 L168_1) rfl hE mixed (AllLoops.of_list (l := []) (by kernel_rfl) trivial) (n168_0 r142 r141 r241 ) (fun _ _ _ => rfl) (fun n x y z => t168_0 r142 r141 r241 L168_0 L168_1 _ x y z) rfl
  have h1 : LoopOk Tryz.prog Tryz.f168.ntmps (loopAt (bodyOf Tryz.f168) 0) (e168_1 L168_1) := lp_ok (E := E168 r142 r141 r241 L168_0 L168_1) rfl hE mixed (AllLoops.of_list (l := []) (by kernel_rfl) trivial) (n168_1 r142 r141 r241 L168_0) (fun _ _ _ => rfl) (fun n x y z => t168_1 r142 r141 r241 L168_0 L168_1 _ x y z) rfl
  exact fn_ok (E := E168 r142 r141 r241 L168_0 L168_1) rfl hE mixed (by kernel_rfl) (by kernel_rfl) (AllLoops.of_list (l := [(loopAt (bodyOf Tryz.f168) 0), (loopAt (bodyOf Tryz.f168) 1)]) (by kernel_rfl) (.one (by kernel_rfl) h1 (.one (by kernel_rfl) h0 trivial))) (s168 r142 r141 r241 L168_0 L168_1)
abbrev i232 : Ts := [.a q3]
abbrev o232 : Ts := [.v (.bool)]
abbrev F232 := FT i232 o232
abbrev g232 := mkG 232 i232 o232
abbrev lc232_0 : Ts := []
abbrev lb232_0 : Ts := [.p q3]
abbrev lv232_0 : Ts := [.v (.int .i64)]
abbrev lr232_0 : Ts := [.v (.bool)]
abbrev R232_0 := Option (Sum (PTup lv232_0) (PTup lr232_0) × BTup lb232_0)
abbrev B232_0 := PTup lb232_0 → PTup lv232_0 → R232_0
abbrev A232_0 := PTup lc232_0 → B232_0
noncomputable def w232_0 (c142 : F142) (c141 : F141) (again : B232_0) (x : PTup lc232_0) (y : PTup lb232_0) (z : PTup lv232_0) : R232_0 :=
  bif (ltI z.1 (lenI y.1.2.1)) then (bif (leI 0 z.1) then (bif (ltI z.1 (lenI y.1.2.1)) then ((c142 ((rdE .t y.1.2.1 z.1).1, ((0 : Int), ((20000 : Int), ())))).bind fun r0 =>
     bif (!r0.1.1) then (some ((Sum.inr (false, ())), (y.1, ())))
     else (c142 ((rdE .t y.1.2.1 z.1).2.1, ((0 : Int), ((7 : Int), ())))).bind fun r1 =>
     bif (!r1.1.1) then (some ((Sum.inr (false, ())), (y.1, ())))
     else (c141 ((rdE .t y.1.2.1 z.1).2.2, ())).bind fun r2 =>
     bif (!r2.1.1) then (some ((Sum.inr (false, ())), (y.1, ())))
     else bif (ltI 0 z.1) then (bif (leI 0 (wI (z.1 - 1))) then (bif (ltI (wI (z.1 - 1)) (lenI y.1.2.1)) then (bif (ltI (rdE .t y.1.2.1 z.1).1 (rdE .t y.1.2.1 (wI (z.1 - 1))).1) then (some ((Sum.inr (false, ())), (y.1, ())))
        else again (y.1, ()) ((wI (z.1 + 1)), ()))
       else none)
      else none)
     else again (y.1, ()) ((wI (z.1 + 1)), ()))
    else none)
   else none)
  else some ((Sum.inl z), (y.1, ()))
noncomputable def e232_0 (l : A232_0) : LoopE := ⟨[], lc232_0, [1], lb232_0, [3], lv232_0, [2], lr232_0, 0, [], l⟩
noncomputable def m232 (c142 : F142) (c141 : F141) (l0 : A232_0) (y : PTup i232) : Option (PTup o232 × BTup i232) :=
  (l0 () (y.1, ()) ((0 : Int), ())).bind fun r0 =>
  sumElim r0.1 (fun r1 => (c142 (r0.2.1.1, ((1 : Int), ((16 : Int), ())))).bind fun r2 =>
   bif r2.1.1 then (some (((leI (lenI y.1.2.1) r0.2.1.1), ()), ()))
   else no)
  (fun r1 => some (r1, ()))
noncomputable def E232 (c142 : F142) (c141 : F141) (l0 : A232_0) : CEnv := ⟨⟨Tryz.prog, fnsL [g142 c142, g141 c141]⟩, loopsL [(2, e232_0 l0)]⟩
theorem t232_0 (c142 : F142) (c141 : F141) (l0 : A232_0) (again) (x y z) : loopRound (E232 c142 c141 l0) (loopAt (bodyOf Tryz.f232) 0) (e232_0 l0) Tryz.f232.ntmps again x y z = w232_0 c142 c141 again x y z := by kernel_rfl
noncomputable def n232_0 (c142 : F142) (c141 : F141) : Nat → A232_0
  | 0, _, _, _ => none
  | n + 1, x, y, z => w232_0 c142 c141 (fun y z => n232_0 c142 c141 n x y z) x y z
theorem s232 (c142 : F142) (c141 : F141) (l0 : A232_0) (y) : tevF (E232 c142 c141 l0) Tryz.f232 i232 o232 y = m232 c142 c141 l0 y := by kernel_rfl
noncomputable def L232_0 : A232_0 := n232_0 r142 r141 fuel
noncomputable def r232 : F232 := m232 r142 r141 L232_0
theorem k232 : KO (g232 r232) := by
  have hE : ∀ g f, (E232 r142 r141 L232_0).env.fns g = some f → CallOk Tryz.prog g f := fnsL_ok ⟨k142, k141, ⟨⟩⟩
  have h0 : LoopOk Tryz.prog Tryz.f232.ntmps (loopAt (bodyOf Tryz.f232) 0) (e232_0 L232_0) := lp_ok (E := E232 r142 r141 L232_0) rfl hE mixed (AllLoops.of_list (l := []) (by kernel_rfl) trivial) (n232_0 r142 r141 ) (fun _ _ _ => rfl) (fun n x y z => t232_0 r142 r141 L232_0 _ x y z) rfl
  exact fn_ok (E := E232 r142 r141 L232_0) rfl hE mixed (by kernel_rfl) (by kernel_rfl) (AllLoops.of_list (l := [(loopAt (bodyOf Tryz.f232) 0)]) (by kernel_rfl) (.one (by kernel_rfl) h0 trivial)) (s232 r142 r141 L232_0)
abbrev i242 : Ts := [.v (.int .i64)]
abbrev o242 : Ts := [.v (.int .i64)]
abbrev F242 := FT i242 o242
abbrev g242 := mkG 242 i242 o242
noncomputable def m242 (y : PTup i242) : Option (PTup o242 × BTup i242) :=
  some (((wI (Int.tdiv (wI ((wI ((wI (y.1 + 64)) - 48)) - 1)) (64 : Int))), ()), ())
theorem s242 (y) : TE [] Tryz.f242 i242 o242 y = m242 y := by kernel_rfl
noncomputable def r242 : F242 := m242 
theorem k242 : KO (g242 r242) := fk (s242 ) trivial (by kernel_rfl)
abbrev i170 : Ts := [.v (.sl false .n), .v (.int .i64)]
abbrev o170 : Ts := [.v (.bool)]
abbrev F170 := FT i170 o170
abbrev g170 := mkG 170 i170 o170
abbrev lc170_0 : Ts := [.v (.sl false .n)]
abbrev lb170_0 : Ts := []
abbrev lv170_0 : Ts := [.v (.int .i64)]
abbrev lr170_0 : Ts := [.v (.bool)]
abbrev R170_0 := Option (Sum (PTup lv170_0) (PTup lr170_0) × BTup lb170_0)
abbrev B170_0 := PTup lb170_0 → PTup lv170_0 → R170_0
abbrev A170_0 := PTup lc170_0 → B170_0
noncomputable def w170_0 (c242 : F242) (again : B170_0) (x : PTup lc170_0) (y : PTup lb170_0) (z : PTup lv170_0) : R170_0 :=
  bif (ltI z.1 (lenI x.1)) then (bif (leI 0 z.1) then (bif (ltI z.1 (lenI x.1)) then (bif (neI (lenI (rdE .n x.1 z.1)) (48 : Int)) then (some ((Sum.inr (false, ())), ()))
     else again () ((wI (z.1 + 1)), ()))
    else none)
   else none)
  else some ((Sum.inl z), ())
noncomputable def e170_0 (l : A170_0) : LoopE := ⟨[0], lc170_0, [], lb170_0, [5], lv170_0, [4], lr170_0, 0, [], l⟩
noncomputable def m170 (c242 : F242) (l0 : A170_0) (y : PTup i170) : Option (PTup o170 × BTup i170) :=
  (l0 (y.1, ()) () ((0 : Int), ())).bind fun r0 =>
  sumElim r0.1 (fun r1 => (c242 y.2).bind fun r2 =>
   some (((eqI (lenI y.1) r2.1.1), ()), ()))
  (fun r1 => some (r1, ()))
noncomputable def E170 (c242 : F242) (l0 : A170_0) : CEnv := ⟨⟨Tryz.prog, fnsL [g242 c242]⟩, loopsL [(2, e170_0 l0)]⟩
theorem t170_0 (c242 : F242) (l0 : A170_0) (again) (x y z) : loopRound (E170 c242 l0) (loopAt (bodyOf Tryz.f170) 0) (e170_0 l0) Tryz.f170.ntmps again x y z = w170_0 c242 again x y z := by kernel_rfl
noncomputable def n170_0 (c242 : F242) : Nat → A170_0
  | 0, _, _, _ => none
  | n + 1, x, y, z => w170_0 c242 (fun y z => n170_0 c242 n x y z) x y z
theorem s170 (c242 : F242) (l0 : A170_0) (y) : tevF (E170 c242 l0) Tryz.f170 i170 o170 y = m170 c242 l0 y := by kernel_rfl
noncomputable def L170_0 : A170_0 := n170_0 r242 fuel
noncomputable def r170 : F170 := m170 r242 L170_0
theorem k170 : KO (g170 r170) := by
  have hE : ∀ g f, (E170 r242 L170_0).env.fns g = some f → CallOk Tryz.prog g f := fnsL_ok ⟨k242, ⟨⟩⟩
  have h0 : LoopOk Tryz.prog Tryz.f170.ntmps (loopAt (bodyOf Tryz.f170) 0) (e170_0 L170_0) := lp_ok (E := E170 r242 L170_0) rfl hE mixed (AllLoops.of_list (l := []) (by kernel_rfl) trivial) (n170_0 r242 ) (fun _ _ _ => rfl) (fun n x y z => t170_0 r242 L170_0 _ x y z) rfl
  exact fn_ok (E := E170 r242 L170_0) rfl hE mixed (by kernel_rfl) (by kernel_rfl) (AllLoops.of_list (l := [(loopAt (bodyOf Tryz.f170) 0)]) (by kernel_rfl) (.one (by kernel_rfl) h0 trivial)) (s170 r242 L170_0)
abbrev i139 : Ts := [.a q4]
abbrev o139 : Ts := [.v (.bool)]
abbrev F139 := FT i139 o139
abbrev g139 := mkG 139 i139 o139
noncomputable def m139 (c168 : F168) (c232 : F232) (c170 : F170) (y : PTup i139) : Option (PTup o139 × BTup i139) :=
  (c168 ((y.1.1, (y.1.2.1, (y.1.2.2.1, (y.1.2.2.2.1, (y.1.2.2.2.2.1, (y.1.2.2.2.2.2.1, (y.1.2.2.2.2.2.2.1, (y.1.2.2.2.2.2.2.2.1, ())))))))), ())).bind fun r0 =>
  bif (!r0.1.1) then no
  else (c232 ((y.1.2.2.2.2.2.2.2.2.1, (y.1.2.2.2.2.2.2.2.2.2.1, ())), ())).bind fun r1 =>
  bif (!r1.1.1) then no
  else bif (eqI (lenI y.1.2.2.2.2.2.2.2.2.2.1) 0) then ((c170 (y.1.2.2.2.2.2.2.2.2.2.2.1, (y.1.1, ()))).bind fun r2 =>
   some (r2.1, ()))
  else bif (ltI 0 (lenI y.1.2.2.2.2.2.2.2.2.2.1)) then (bif (leI y.1.1 (rdE .t y.1.2.2.2.2.2.2.2.2.2.1 (0 : Int)).1) then ((c170 (y.1.2.2.2.2.2.2.2.2.2.2.1, (y.1.1, ()))).bind fun r2 =>
    some (r2.1, ()))
   else no)
  else none
theorem s139 (c168 : F168) (c232 : F232) (c170 : F170) (y) : TE [g168 c168, g232 c232, g170 c170] Tryz.f139 i139 o139 y = m139 c168 c232 c170 y := by kernel_rfl
noncomputable def r139 : F139 := m139 r168 r232 r170 
theorem k139 : KO (g139 r139) := fk (s139 r168 r232 r170) ⟨k168, k232, k170, ⟨⟩⟩ (by kernel_rfl)
abbrev i169 : Ts := [.a q14]
abbrev o169 : Ts := [.v (.bool)]
abbrev F169 := FT i169 o169
abbrev g169 := mkG 169 i169 o169
noncomputable def m169 (c142 : F142) (c141 : F141) (y : PTup i169) : Option (PTup o169 × BTup i169) :=
  (c142 (y.1.1, ((0 : Int), ((20000 : Int), ())))).bind fun r0 =>
  bif r0.1.1 then ((c141 (y.1.2.1, ())).bind fun r1 =>
   bif r1.1.1 then ((c141 (y.1.2.2.1, ())).bind fun r2 =>
    bif r2.1.1 then ((c142 (y.1.2.2.2.1, ((0 : Int), ((1 : Int), ())))).bind fun r3 =>
     bif r3.1.1 then ((c142 (y.1.2.2.2.2.1, ((0 : Int), ((31 : Int), ())))).bind fun r4 =>
      some (r4.1, ()))
     else no)
    else no)
   else no)
  else no
theorem s169 (c142 : F142) (c141 : F141) (y) : TE [g142 c142, g141 c141] Tryz.f169 i169 o169 y = m169 c142 c141 y := by kernel_rfl
noncomputable def r169 : F169 := m169 r142 r141 
theorem k169 : KO (g169 r169) := fk (s169 r142 r141) ⟨k142, k141, ⟨⟩⟩ (by kernel_rfl)
abbrev i140 : Ts := [.a q5]
abbrev o140 : Ts := [.v (.bool)]
abbrev F140 := FT i140 o140
abbrev g140 := mkG 140 i140 o140
noncomputable def m140 (c169 : F169) (c232 : F232) (y : PTup i140) : Option (PTup o140 × BTup i140) :=
  (c169 ((y.1.1, (y.1.2.1, (y.1.2.2.1, (y.1.2.2.2.1, (y.1.2.2.2.2.1, (y.1.2.2.2.2.2.1, (y.1.2.2.2.2.2.2.1, ()))))))), ())).bind fun r0 =>
  bif (!r0.1.1) then no
  else (c232 ((y.1.2.2.2.2.2.2.2.1, (y.1.2.2.2.2.2.2.2.2.1, ())), ())).bind fun r1 =>
  bif (!r1.1.1) then no
  else bif (eqI (lenI y.1.2.2.2.2.2.2.2.2.1) 0) then (some (((eqI (lenI y.1.2.2.2.2.2.2.2.2.2.1) (wI (Int.tdiv y.1.1 16))), ()), ()))
  else bif (ltI 0 (lenI y.1.2.2.2.2.2.2.2.2.1)) then (bif (leI y.1.1 (rdE .t y.1.2.2.2.2.2.2.2.2.1 (0 : Int)).1) then (some (((eqI (lenI y.1.2.2.2.2.2.2.2.2.2.1) (wI (Int.tdiv y.1.1 16))), ()), ()))
   else no)
  else none
theorem s140 (c169 : F169) (c232 : F232) (y) : TE [g169 c169, g232 c232] Tryz.f140 i140 o140 y = m140 c169 c232 y := by kernel_rfl
noncomputable def r140 : F140 := m140 r169 r232 
theorem k140 : KO (g140 r140) := fk (s140 r169 r232) ⟨k169, k232, ⟨⟩⟩ (by kernel_rfl)
abbrev i143 : Ts := [.a q3]
abbrev o143 : Ts := [.v (.int .i64)]
abbrev F143 := FT i143 o143
abbrev g143 := mkG 143 i143 o143
noncomputable def m143 (y : PTup i143) : Option (PTup o143 × BTup i143) :=
  bif (eqI (lenI y.1.2.1) 0) then (some (((0 : Int), ()), ()))
  else bif (leI 0 (wI ((lenI y.1.2.1) - 1))) then (bif (ltI (wI ((lenI y.1.2.1) - 1)) (lenI y.1.2.1)) then (some (((rdE .t y.1.2.1 (wI ((lenI y.1.2.1) - 1))).1, ()), ()))
   else none)
  else none
theorem s143 (y) : TE [] Tryz.f143 i143 o143 y = m143 y := by kernel_rfl
noncomputable def r143 : F143 := m143 
theorem k143 : KO (g143 r143) := fk (s143 ) trivial (by kernel_rfl)
abbrev i59 : Ts := [.a q6]
abbrev o59 : Ts := [.v (.bool)]
abbrev F59 := FT i59 o59
abbrev g59 := mkG 59 i59 o59
noncomputable def m59 (c138 : F138) (c137 : F137) (c136 : F136) (c139 : F139) (c140 : F140) (c143 : F143) (c142 : F142) (c141 : F141) (y : PTup i59) : Option (PTup o59 × BTup i59) :=
  let a0 := y.1; let a1 := a0.2; let a2 := a1.2; let a3 := a2.2; let a4 := a3.2; let a5 := a4.2; let a6 := a5.2; let a7 := a6.2; let a8 := a7.2; let a9 := a8.2; let a10 := a9.2; let a11 := a10.2; let a12 := a11.2; let a13 := a12.2; let a14 := a13.2; let a15 := a14.2; let a16 := a15.2; let a17 := a16.2; let a18 := a17.2; let a19 := a18.2; let a20 := a19.2; let a21 := a20.2; let a22 := a21.2; let a23 := a22.2; let a24 := a23.2; let a25 := a24.2; let a26 := a25.2; let a27 := a26.2; let a28 := a27.2; let a29 := a28.2.2; let a30 := a29.2.2.2.2.2.2.2.2.2; (c136 (a1.1, ())).bind fun r0 =>
  bif (!r0.1.1) then no
  else (c137 ((a0.1, ()), ((a2.1, (a3.1, ())), ()))).bind fun r1 =>
  bif (!r1.1.1) then no
  else (c138 ((a4.1, (a5.1, (a6.1, (a7.1, (a8.1, (a9.1, (a10.1, (a11.1, ())))))))), ())).bind fun r2 =>
  bif (!r2.1.1) then no
  else (c139 ((a21.1, (a22.1, (a23.1, (a24.1, (a25.1, (a26.1, (a27.1, (a28.1, (a28.2.1, (a29.1, (a29.2.1, ()))))))))))), ())).bind fun r3 =>
  bif (!r3.1.1) then no
  else (c140 (a29.2.2, ())).bind fun r4 =>
  bif (!r4.1.1) then no
  else (c141 (a13.1, ())).bind fun r5 =>
  bif (!r5.1.1) then no
  else (c141 (a16.1, ())).bind fun r6 =>
  bif (!r6.1.1) then no
  else (c142 (a14.1, ((0 : Int), ((20000 : Int), ())))).bind fun r7 =>
  bif (!r7.1.1) then no
  else (c142 (a18.1, ((0 : Int), (a14.1, ())))).bind fun r8 =>
  bif (!r8.1.1) then no
  else (c142 (a19.1, ((0 : Int), (a14.1, ())))).bind fun r9 =>
  bif (!r9.1.1) then no
  else bif (ltI a14.1 a21.1) then no
  else bif (ltI a14.1 a29.2.2.1) then no
  else (c143 ((a28.2.1, (a29.1, ())), ())).bind fun r10 =>
  bif (leI r10.1.1 a14.1) then ((c143 ((a30.1, (a30.2.1, ())), ())).bind fun r11 =>
   some (((leI r11.1.1 a14.1), ()), ()))
  else no
theorem s59 (c138 : F138) (c137 : F137) (c136 : F136) (c139 : F139) (c140 : F140) (c143 : F143) (c142 : F142) (c141 : F141) (y) : TE [g138 c138, g137 c137, g136 c136, g139 c139, g140 c140, g143 c143, g142 c142, g141 c141] Tryz.f59 i59 o59 y = m59 c138 c137 c136 c139 c140 c143 c142 c141 y := by kernel_rfl
noncomputable def r59 : F59 := m59 r138 r137 r136 r139 r140 r143 r142 r141 
theorem k59 : KO (g59 r59) := fk (s59 r138 r137 r136 r139 r140 r143 r142 r141) ⟨k138, k137, k136, k139, k140, k143, k142, k141, ⟨⟩⟩ (by kernel_rfl)
abbrev i262 : Ts := [.v (.int .i64)]
abbrev o262 : Ts := [.v (.int .i64)]
abbrev F262 := FT i262 o262
abbrev g262 := mkG 262 i262 o262
noncomputable def m262 (y : PTup i262) : Option (PTup o262 × BTup i262) :=
  some (((bAnd Go.IntKind.i64 y.1 (255 : Int)), ()), ())
theorem s262 (y) : TE [] Tryz.f262 i262 o262 y = m262 y := by kernel_rfl
noncomputable def r262 : F262 := m262 
theorem k262 : KO (g262 r262) := fk (s262 ) trivial (by kernel_rfl)
abbrev i213 : Ts := [.a q2, .v (.int .i64), .v (.int .i64)]
abbrev o213 : Ts := [.a q10]
abbrev F213 := FT i213 o213
abbrev g213 := mkG 213 i213 o213
noncomputable def m213 (c262 : F262) (c168 : F168) (c171 : F171) (y : PTup i213) : Option (PTup o213 × BTup i213) :=
  (c171 (y.1, ())).bind fun r0 =>
  (c168 (y.1, ())).bind fun r1 =>
  bif (!r1.1.1) then (some ((r0.1.1, ()), ()))
  else (c262 y.2.2).bind fun r2 =>
  bif (eqI y.2.1 0) then (some (((r0.1.1.1, (r2.1.1, r0.1.1.2.2)), ()), ()))
  else bif (eqI y.2.1 1) then (some (((r0.1.1.1, (r0.1.1.2.1, (r2.1.1, r0.1.1.2.2.2))), ()), ()))
  else bif (eqI y.2.1 3) then (some (((r0.1.1.1, (r0.1.1.2.1, (r0.1.1.2.2.1, ((Int.tmod r2.1.1 16), r0.1.1.2.2.2.2)))), ()), ()))
  else bif (eqI y.2.1 4) then (bif (leI 0 y.1.2.2.2.1) then (bif (ltI y.1.2.2.2.1 (lenI r0.1.1.2.2.2.2.2.2.1)) then (some (((r0.1.1.1, (r0.1.1.2.1, (r0.1.1.2.2.1, ((Int.tmod (wI (y.1.2.2.2.1 + 1)) (16 : Int)), (r0.1.1.2.2.2.2.1, (r0.1.1.2.2.2.2.2.1, ((List.set r0.1.1.2.2.2.2.2.2.1 (Int.toNat y.1.2.2.2.1) (Int.tmod r2.1.1 64)), r0.1.1.2.2.2.2.2.2.2))))))), ()), ()))
    else none)
   else none)
  else bif (eqI y.2.1 5) then (some (((r0.1.1.1, (r0.1.1.2.1, (r0.1.1.2.2.1, (r0.1.1.2.2.2.1, ((Int.tmod r2.1.1 64), r0.1.1.2.2.2.2.2))))), ()), ()))
  else some ((r0.1.1, ()), ())
theorem s213 (c262 : F262) (c168 : F168) (c171 : F171) (y) : TE [g262 c262, g168 c168, g171 c171] Tryz.f213 i213 o213 y = m213 c262 c168 c171 y := by kernel_rfl
noncomputable def r213 : F213 := m213 r262 r168 r171 
theorem k213 : KO (g213 r213) := fk (s213 r262 r168 r171) ⟨k262, k168, k171, ⟨⟩⟩ (by kernel_rfl)
abbrev i283 : Ts := [.a q2, .v (.int .i64)]
abbrev o283 : Ts := [.v (.int .i64)]
abbrev F283 := FT i283 o283
abbrev g283 := mkG 283 i283 o283
noncomputable def m283 (y : PTup i283) : Option (PTup o283 × BTup i283) :=
  bif (leI 0 (Int.tmod (wI ((wI ((Int.tmod y.2.1 8) + y.1.2.2.1)) + (wI (Int.tdiv y.2.1 8)))) (16 : Int))) then (bif (ltI (Int.tmod (wI ((wI ((Int.tmod y.2.1 8) + y.1.2.2.1)) + (wI (Int.tdiv y.2.1 8)))) (16 : Int)) (lenI y.1.2.2.2.2.2.2.1)) then (some (((bXor Go.IntKind.i64 (rdE .i y.1.2.2.2.2.2.2.1 (Int.tmod (wI ((wI ((Int.tmod y.2.1 8) + y.1.2.2.1)) + (wI (Int.tdiv y.2.1 8)))) (16 : Int))) y.1.2.2.2.2.1), ()), ()))
   else none)
  else none
theorem s283 (y) : TE [] Tryz.f283 i283 o283 y = m283 y := by kernel_rfl
noncomputable def r283 : F283 := m283 
theorem k283 : KO (g283 r283) := fk (s283 ) trivial (by kernel_rfl)
abbrev i214 : Ts := [.a q2]
abbrev o214 : Ts := [.a q10, .v (.sl true .i), .v (.bool)]
abbrev F214 := FT i214 o214
abbrev g214 := mkG 214 i214 o214
noncomputable def m214 (c171 : F171) (c283 : F283) (y : PTup i214) : Option (PTup o214 × BTup i214) :=
  (c171 (y.1, ())).bind fun r0 =>
  bif (eqI y.1.1 20000) then (some ((r0.1.1, ([], (false, ()))), ()))
  else bif (ltI (Int.tmod y.1.1 64) (48 : Int)) then ((c283 (y.1, ((Int.tmod y.1.1 64), ()))).bind fun r1 =>
   bif (leN ((List.length r0.1.1.2.2.2.2.2.2.2.1) + (List.length (r1.1.1 :: []))) (E.most .i)) then (some ((((wI (y.1.1 + 1)), (r0.1.1.2.1, (r0.1.1.2.2.1, (r0.1.1.2.2.2.1, (r0.1.1.2.2.2.2.1, (r0.1.1.2.2.2.2.2.1, (r0.1.1.2.2.2.2.2.2.1, ((r0.1.1.2.2.2.2.2.2.2.1 ++ (r1.1.1 :: [])), ())))))))), ([], (false, ()))), ()))
   else none)
  else bif (eqI (Int.tmod y.1.1 64) (48 : Int)) then (bif (leN (0 + (List.length y.1.2.2.2.2.2.2.2.1)) (E.most .i)) then (some ((((wI (y.1.1 + 1)), (r0.1.1.2.1, (r0.1.1.2.2.1, (r0.1.1.2.2.2.1, (r0.1.1.2.2.2.2.1, (true, (r0.1.1.2.2.2.2.2.2.1, ([], ())))))))), (([] ++ y.1.2.2.2.2.2.2.2.1), ((ltI 127 y.1.2.1), ()))), ()))
   else none)
  else bif (eqI (Int.tmod y.1.1 64) (63 : Int)) then (some ((((wI (y.1.1 + 1)), (r0.1.1.2.1, (r0.1.1.2.2.1, (r0.1.1.2.2.2.1, (r0.1.1.2.2.2.2.1, (false, r0.1.1.2.2.2.2.2.2)))))), ([], (false, ()))), ()))
  else some ((((wI (y.1.1 + 1)), r0.1.1.2), ([], (false, ()))), ())
theorem s214 (c171 : F171) (c283 : F283) (y) : TE [g171 c171, g283 c283] Tryz.f214 i214 o214 y = m214 c171 c283 y := by kernel_rfl
noncomputable def r214 : F214 := m214 r171 r283 
theorem k214 : KO (g214 r214) := fk (s214 r171 r283) ⟨k171, k283, ⟨⟩⟩ (by kernel_rfl)
abbrev i111 : Ts := [.a q13, .v (.int .i64)]
abbrev o111 : Ts := [.a q13, .v (.bool)]
abbrev R111 := Option (PTup o111 × BTup i111)
abbrev F111 := PTup i111 → R111
abbrev g111 := mkG 111 i111 o111
noncomputable def m111 (c213 : F213) (c214 : F214) (y : PTup i111) : R111 :=
  let a0 := y.1; let a1 := a0.2; let a2 := a1.2; let a3 := a2.2; let a4 := a3.2; let a5 := a4.2; let a6 := a5.2; let a7 := a6.2; let a8 := a7.2; let a9 := a8.2; let X0 : R111 := bif (leI y.2.1 a0.1) then (some ((a0, (false, ())), ())) else bif (eqI a0.1 20000) then (some ((a0, (false, ())), ())) else (c214 ((a0.1, (a1.1, (a2.1, (a3.1, (a4.1, (a5.1, (a6.1, (a7.1, ())))))))), ())).bind fun r0 => bif (eqI (Int.tmod a0.1 64) (48 : Int)) then (bif (leN ((List.length a9.2.1) + (List.length (r0.1.2.1 :: []))) (E.most .n)) then (some (((r0.1.1.1, (r0.1.1.2.1, (r0.1.1.2.2.1, (r0.1.1.2.2.2.1, (r0.1.1.2.2.2.2.1, (r0.1.1.2.2.2.2.2.1, (r0.1.1.2.2.2.2.2.2.1, (r0.1.1.2.2.2.2.2.2.2.1, (a8.1, (a9.1, ((a9.2.1 ++ (r0.1.2.1 :: [])), ()))))))))))), (true, ())), ())) else none) else some (((r0.1.1.1, (r0.1.1.2.1, (r0.1.1.2.2.1, (r0.1.1.2.2.2.1, (r0.1.1.2.2.2.2.1, (r0.1.1.2.2.2.2.2.1, (r0.1.1.2.2.2.2.2.2.1, (r0.1.1.2.2.2.2.2.2.2.1, a8)))))))), (true, ())), ()); bif (ltI 0 (lenI a9.1)) then (bif (ltI 0 (lenI a9.1)) then (bif (eqI (rdE .t a9.1 (0 : Int)).1 a0.1) then (bif (ltI 0 (lenI a9.1)) then (bif (leI 1 (lenI a9.1)) then (bif (leN (0 + (List.length (List.drop (Int.toNat (1 : Int)) a9.1))) (E.most .t)) then ((c213 ((a0.1, (a1.1, (a2.1, (a3.1, (a4.1, (a5.1, (a6.1, (a7.1, ())))))))), ((rdE .t a9.1 (0 : Int)).2.1, ((rdE .t a9.1 (0 : Int)).2.2, ())))).bind fun r0 => some (((r0.1.1.1, (r0.1.1.2.1, (r0.1.1.2.2.1, (r0.1.1.2.2.2.1, (r0.1.1.2.2.2.2.1, (r0.1.1.2.2.2.2.2.1, (r0.1.1.2.2.2.2.2.2.1, (r0.1.1.2.2.2.2.2.2.2.1, (a8.1, (([] ++ (List.drop (Int.toNat (1 : Int)) a9.1)), a9.2)))))))))), (true, ())), ())) else none) else none) else none) else X0) else none) else X0
theorem s111 (c213 : F213) (c214 : F214) (y) : TE [g213 c213, g214 c214] Tryz.f111 i111 o111 y = m111 c213 c214 y := by kernel_rfl
noncomputable def r111 : F111 := m111 r213 r214 
theorem k111 : KO (g111 r111) := fk (s111 r213 r214) ⟨k213, k214, ⟨⟩⟩ (by kernel_rfl)
abbrev i60 : Ts := [.a q4, .v (.int .i64)]
abbrev o60 : Ts := [.a q13]
abbrev F60 := FT i60 o60
abbrev g60 := mkG 60 i60 o60
abbrev lc60_0 : Ts := [.v (.int .i64)]
abbrev lb60_0 : Ts := [.p q13]
abbrev lv60_0 : Ts := [.v (.bool)]
abbrev lr60_0 : Ts := []
abbrev R60_0 := Option (Sum (PTup lv60_0) (PTup lr60_0) × BTup lb60_0)
abbrev B60_0 := PTup lb60_0 → PTup lv60_0 → R60_0
abbrev A60_0 := PTup lc60_0 → B60_0
noncomputable def w60_0 (c139 : F139) (c111 : F111) (c134 : F134) (again : B60_0) (x : PTup lc60_0) (y : PTup lb60_0) (z : PTup lv60_0) : R60_0 :=
  bif z.1 then ((c111 (y.1, x)).bind fun r0 =>
   again (r0.1.1, ()) r0.1.2)
  else some ((Sum.inl z), (y.1, ()))
noncomputable def e60_0 (l : A60_0) : LoopE := ⟨[1], lc60_0, [5], lb60_0, [6], lv60_0, [], lr60_0, 0, [], l⟩
noncomputable def m60 (c139 : F139) (c111 : F111) (c134 : F134) (l0 : A60_0) (y : PTup i60) : Option (PTup o60 × BTup i60) :=
  (c139 (y.1, ())).bind fun r0 =>
  bif (!r0.1.1) then (some ((((0 : Int), ((0 : Int), ((0 : Int), ((0 : Int), ((0 : Int), (false, ([], ([], ((0 : Int), ([], ([], ()))))))))))), ()), ()))
  else (c134 (y.1, ())).bind fun r1 =>
  (l0 y.2 (r1.1.1, ()) (true, ())).bind fun r2 =>
  sumElim r2.1 (fun r3 => some ((r2.2.1, ()), ()))
  (fun r3 => some ((((0 : Int), ((0 : Int), ((0 : Int), ((0 : Int), ((0 : Int), (false, ([], ([], ((0 : Int), ([], ([], ()))))))))))), ()), ()))
noncomputable def E60 (c139 : F139) (c111 : F111) (c134 : F134) (l0 : A60_0) : CEnv := ⟨⟨Tryz.prog, fnsL [g139 c139, g111 c111, g134 c134]⟩, loopsL [(5, e60_0 l0)]⟩
theorem t60_0 (c139 : F139) (c111 : F111) (c134 : F134) (l0 : A60_0) (again) (x y z) : loopRound (E60 c139 c111 c134 l0) (loopAt (bodyOf Tryz.f60) 0) (e60_0 l0) Tryz.f60.ntmps again x y z = w60_0 c139 c111 c134 again x y z := by kernel_rfl
noncomputable def n60_0 (c139 : F139) (c111 : F111) (c134 : F134) : Nat → A60_0
  | 0, _, _, _ => none
  | n + 1, x, y, z => w60_0 c139 c111 c134 (fun y z => n60_0 c139 c111 c134 n x y z) x y z
theorem s60 (c139 : F139) (c111 : F111) (c134 : F134) (l0 : A60_0) (y) : tevF (E60 c139 c111 c134 l0) Tryz.f60 i60 o60 y = m60 c139 c111 c134 l0 y := by kernel_rfl
noncomputable def L60_0 : A60_0 := n60_0 r139 r111 r134 fuel
noncomputable def r60 : F60 := m60 r139 r111 r134 L60_0
theorem k60 : KO (g60 r60) := by
  have hE : ∀ g f, (E60 r139 r111 r134 L60_0).env.fns g = some f → CallOk Tryz.prog g f := fnsL_ok ⟨k139, k111, k134, ⟨⟩⟩
  have h0 : LoopOk Tryz.prog Tryz.f60.ntmps (loopAt (bodyOf Tryz.f60) 0) (e60_0 L60_0) := lp_ok (E := E60 r139 r111 r134 L60_0) rfl hE mixed (AllLoops.of_list (l := []) (by kernel_rfl) trivial) (n60_0 r139 r111 r134 ) (fun _ _ _ => rfl) (fun n x y z => t60_0 r139 r111 r134 L60_0 _ x y z) rfl
  exact fn_ok (E := E60 r139 r111 r134 L60_0) rfl hE mixed (by kernel_rfl) (by kernel_rfl) (AllLoops.of_list (l := [(loopAt (bodyOf Tryz.f60) 0)]) (by kernel_rfl) (.one (by kernel_rfl) h0 trivial)) (s60 r139 r111 r134 L60_0)
abbrev i215 : Ts := [.a q14, .v (.int .i64), .v (.int .i64)]
abbrev o215 : Ts := [.a q14]
abbrev F215 := FT i215 o215
abbrev g215 := mkG 215 i215 o215
noncomputable def m215 (c169 : F169) (c262 : F262) (y : PTup i215) : Option (PTup o215 × BTup i215) :=
  (c169 (y.1, ())).bind fun r0 =>
  bif (!r0.1.1) then (some ((y.1, ()), ()))
  else (c262 y.2.2).bind fun r1 =>
  bif (eqI y.2.1 0) then (some (((y.1.1, (r1.1.1, y.1.2.2)), ()), ()))
  else bif (eqI y.2.1 1) then (some (((y.1.1, (y.1.2.1, (y.1.2.2.1, (y.1.2.2.2.1, ((Int.tmod r1.1.1 32), y.1.2.2.2.2.2))))), ()), ()))
  else bif (eqI y.2.1 2) then (bif y.1.2.2.2.2.2.2.1 then (some (((y.1.1, (y.1.2.1, (y.1.2.2.1, (y.1.2.2.2.1, (y.1.2.2.2.2.1, ((eqI (Int.tmod r1.1.1 2) (1 : Int)), ((eqI (Int.tmod r1.1.1 2) (1 : Int)), ()))))))), ()), ()))
   else some (((y.1.1, (y.1.2.1, (y.1.2.2.1, (y.1.2.2.2.1, (y.1.2.2.2.2.1, ((eqI (Int.tmod r1.1.1 2) (1 : Int)), (false, ()))))))), ()), ()))
  else bif (eqI y.2.1 3) then (some (((y.1.1, (y.1.2.1, (y.1.2.2.1, (y.1.2.2.2.1, (y.1.2.2.2.2.1, (y.1.2.2.2.2.2.1, (false, ()))))))), ()), ()))
  else some ((y.1, ()), ())
theorem s215 (c169 : F169) (c262 : F262) (y) : TE [g169 c169, g262 c262] Tryz.f215 i215 o215 y = m215 c169 c262 y := by kernel_rfl
noncomputable def r215 : F215 := m215 r169 r262 
theorem k215 : KO (g215 r215) := fk (s215 r169 r262) ⟨k169, k262, ⟨⟩⟩ (by kernel_rfl)
abbrev i216 : Ts := [.a q14]
abbrev o216 : Ts := [.a q14, .v (.int .i64), .v (.bool)]
abbrev R216 := Option (PTup o216 × BTup i216)
abbrev F216 := PTup i216 → R216
abbrev g216 := mkG 216 i216 o216
noncomputable def m216 (y : PTup i216) : R216 :=
  let a0 := y.1; let a1 := a0.1; let a2 := a0.2; let a3 := a2.1; let a4 := a2.2; let a5 := a4.1; let a6 := a4.2; let a7 := a6.1; let a8 := a6.2; let a9 := a8.1; let a10 := a8.2; let a11 := a10.1; let X0 : R216 := bif (eqI (Int.tmod a1 16) (15 : Int)) then (bif (ltI 0 a9) then (some ((((wI (a1 + 1)), (a3, (a3, ((wI ((1 : Int) - a7)), a8)))), ((wI ((8 : Int) * (wI ((1 : Int) - a7)))), ((eqI (Int.tmod a1 16) (15 : Int)), ()))), ())) else some ((((wI (a1 + 1)), (a3, (a3, ((wI ((1 : Int) - a7)), a8)))), ((0 : Int), ((eqI (Int.tmod a1 16) (15 : Int)), ()))), ())) else some ((((wI (a1 + 1)), (a3, (a3, ((wI ((1 : Int) - a7)), a8)))), ((0 : Int), ((eqI (Int.tmod a1 16) (15 : Int)), ()))), ()); let X1 : R216 := bif (eqI (Int.tmod a1 16) (15 : Int)) then (bif (ltI 0 a9) then (some ((((wI (a1 + 1)), (a3, ((wI (a5 - 1)), a6))), ((wI ((8 : Int) * a7)), ((eqI (Int.tmod a1 16) (15 : Int)), ()))), ())) else some ((((wI (a1 + 1)), (a3, ((wI (a5 - 1)), a6))), ((0 : Int), ((eqI (Int.tmod a1 16) (15 : Int)), ()))), ())) else some ((((wI (a1 + 1)), (a3, ((wI (a5 - 1)), a6))), ((0 : Int), ((eqI (Int.tmod a1 16) (15 : Int)), ()))), ()); let X2 : R216 := bif (eqI (Int.tmod a1 16) (15 : Int)) then (bif (ltI 0 a9) then (some ((((wI (a1 + 1)), (a3, (a3, a6))), ((wI ((8 : Int) * a7)), ((eqI (Int.tmod a1 16) (15 : Int)), ()))), ())) else some ((((wI (a1 + 1)), (a3, (a3, a6))), ((0 : Int), ((eqI (Int.tmod a1 16) (15 : Int)), ()))), ())) else some ((((wI (a1 + 1)), (a3, (a3, a6))), ((0 : Int), ((eqI (Int.tmod a1 16) (15 : Int)), ()))), ()); let X3 : R216 := some ((((wI (a1 + 1)), (a3, ((wI (a5 - 1)), (a7, ((wI (a9 - 1)), (a11, (a11, ()))))))), ((0 : Int), ((eqI (Int.tmod a1 16) (15 : Int)), ()))), ()); let X4 : R216 := some ((((wI (a1 + 1)), (a3, (a3, ((wI ((1 : Int) - a7)), ((wI (a9 - 1)), (a11, (a11, ()))))))), ((0 : Int), ((eqI (Int.tmod a1 16) (15 : Int)), ()))), ()); let X5 : R216 := some ((((wI (a1 + 1)), (a3, ((wI (a5 - 1)), (a7, ((wI (a9 - 1)), (a11, (false, ()))))))), ((0 : Int), ((eqI (Int.tmod a1 16) (15 : Int)), ()))), ()); let X6 : R216 := some ((((wI (a1 + 1)), (a3, ((wI (a5 - 1)), (a7, ((wI (a9 - 1)), (a11, (true, ()))))))), ((0 : Int), ((eqI (Int.tmod a1 16) (15 : Int)), ()))), ()); let X7 : R216 := some ((((wI (a1 + 1)), (a3, (a3, ((wI ((1 : Int) - a7)), ((wI (a9 - 1)), (a11, (false, ()))))))), ((0 : Int), ((eqI (Int.tmod a1 16) (15 : Int)), ()))), ()); let X8 : R216 := some ((((wI (a1 + 1)), (a3, (a3, ((wI ((1 : Int) - a7)), ((wI (a9 - 1)), (a11, (true, ()))))))), ((0 : Int), ((eqI (Int.tmod a1 16) (15 : Int)), ()))), ()); let X9 : R216 := some ((((wI (a1 + 1)), (a3, (a3, (a7, ((wI (a9 - 1)), (a11, (a11, ()))))))), ((0 : Int), ((eqI (Int.tmod a1 16) (15 : Int)), ()))), ()); let X10 : R216 := some ((((wI (a1 + 1)), (a3, (a3, (a7, ((wI (a9 - 1)), (a11, (false, ()))))))), ((0 : Int), ((eqI (Int.tmod a1 16) (15 : Int)), ()))), ()); let X11 : R216 := some ((((wI (a1 + 1)), (a3, (a3, (a7, ((wI (a9 - 1)), (a11, (true, ()))))))), ((0 : Int), ((eqI (Int.tmod a1 16) (15 : Int)), ()))), ()); bif (eqI a1 20000) then (some ((a0, ((0 : Int), (false, ()))), ())) else bif (eqI a5 0) then (bif (ltI 0 a9) then (bif (eqI (Int.tmod a1 32) (0 : Int)) then (bif (ltI 0 a9) then (bif a10.2.1 then (bif (eqI (Int.tmod a1 16) (15 : Int)) then (bif (ltI 0 (wI (a9 - 1))) then (some ((((wI (a1 + 1)), (a3, (a3, ((wI ((1 : Int) - a7)), ((wI (a9 - 1)), (a11, (true, ()))))))), ((wI ((8 : Int) * (wI ((1 : Int) - a7)))), ((eqI (Int.tmod a1 16) (15 : Int)), ()))), ())) else X8) else X8) else bif (eqI (wI (a9 - 1)) (0 : Int)) then (bif (eqI (Int.tmod a1 16) (15 : Int)) then (bif (ltI 0 (wI (a9 - 1))) then (some ((((wI (a1 + 1)), (a3, (a3, ((wI ((1 : Int) - a7)), ((wI (a9 - 1)), (a11, (a11, ()))))))), ((wI ((8 : Int) * (wI ((1 : Int) - a7)))), ((eqI (Int.tmod a1 16) (15 : Int)), ()))), ())) else X4) else X4) else bif (eqI (Int.tmod a1 16) (15 : Int)) then (bif (ltI 0 (wI (a9 - 1))) then (some ((((wI (a1 + 1)), (a3, (a3, ((wI ((1 : Int) - a7)), ((wI (a9 - 1)), (a11, (false, ()))))))), ((wI ((8 : Int) * (wI ((1 : Int) - a7)))), ((eqI (Int.tmod a1 16) (15 : Int)), ()))), ())) else X7) else X7) else X0) else X0) else bif (eqI (Int.tmod a1 32) (0 : Int)) then (bif (ltI 0 a9) then (bif a10.2.1 then (bif (eqI (Int.tmod a1 16) (15 : Int)) then (bif (ltI 0 (wI (a9 - 1))) then (some ((((wI (a1 + 1)), (a3, (a3, (a7, ((wI (a9 - 1)), (a11, (true, ()))))))), ((wI ((8 : Int) * a7)), ((eqI (Int.tmod a1 16) (15 : Int)), ()))), ())) else X11) else X11) else bif (eqI (wI (a9 - 1)) (0 : Int)) then (bif (eqI (Int.tmod a1 16) (15 : Int)) then (bif (ltI 0 (wI (a9 - 1))) then (some ((((wI (a1 + 1)), (a3, (a3, (a7, ((wI (a9 - 1)), (a11, (a11, ()))))))), ((wI ((8 : Int) * a7)), ((eqI (Int.tmod a1 16) (15 : Int)), ()))), ())) else X9) else X9) else bif (eqI (Int.tmod a1 16) (15 : Int)) then (bif (ltI 0 (wI (a9 - 1))) then (some ((((wI (a1 + 1)), (a3, (a3, (a7, ((wI (a9 - 1)), (a11, (false, ()))))))), ((wI ((8 : Int) * a7)), ((eqI (Int.tmod a1 16) (15 : Int)), ()))), ())) else X10) else X10) else X2) else X2) else bif (eqI (Int.tmod a1 32) (0 : Int)) then (bif (ltI 0 a9) then (bif a10.2.1 then (bif (eqI (Int.tmod a1 16) (15 : Int)) then (bif (ltI 0 (wI (a9 - 1))) then (some ((((wI (a1 + 1)), (a3, ((wI (a5 - 1)), (a7, ((wI (a9 - 1)), (a11, (true, ()))))))), ((wI ((8 : Int) * a7)), ((eqI (Int.tmod a1 16) (15 : Int)), ()))), ())) else X6) else X6) else bif (eqI (wI (a9 - 1)) (0 : Int)) then (bif (eqI (Int.tmod a1 16) (15 : Int)) then (bif (ltI 0 (wI (a9 - 1))) then (some ((((wI (a1 + 1)), (a3, ((wI (a5 - 1)), (a7, ((wI (a9 - 1)), (a11, (a11, ()))))))), ((wI ((8 : Int) * a7)), ((eqI (Int.tmod a1 16) (15 : Int)), ()))), ())) else X3) else X3) else bif (eqI (Int.tmod a1 16) (15 : Int)) then (bif (ltI 0 (wI (a9 - 1))) then (some ((((wI (a1 + 1)), (a3, ((wI (a5 - 1)), (a7, ((wI (a9 - 1)), (a11, (false, ()))))))), ((wI ((8 : Int) * a7)), ((eqI (Int.tmod a1 16) (15 : Int)), ()))), ())) else X5) else X5) else X1) else X1
theorem s216 (y) : TE [] Tryz.f216 i216 o216 y = m216 y := by kernel_rfl
noncomputable def r216 : F216 := m216 
theorem k216 : KO (g216 r216) := fk (s216 ) trivial (by kernel_rfl)
abbrev i112 : Ts := [.a q15, .v (.int .i64)]
abbrev o112 : Ts := [.a q15, .v (.bool)]
abbrev R112 := Option (PTup o112 × BTup i112)
abbrev F112 := PTup i112 → R112
abbrev g112 := mkG 112 i112 o112
noncomputable def m112 (c215 : F215) (c216 : F216) (y : PTup i112) : R112 :=
  let a0 := y.1; let a1 := a0.2; let a2 := a1.2; let a3 := a2.2; let a4 := a3.2; let a5 := a4.2; let a6 := a5.2; let a7 := a6.2; let a8 := a7.2; let a9 := a8.1; let X0 : R112 := bif (leI y.2.1 a0.1) then (some ((a0, (false, ())), ())) else bif (eqI a0.1 20000) then (some ((a0, (false, ())), ())) else (c216 ((a0.1, (a1.1, (a2.1, (a3.1, (a4.1, (a5.1, (a6.1, ()))))))), ())).bind fun r0 => bif r0.1.2.2.1 then (bif (leN ((List.length a8.2.1) + (List.length (r0.1.2.1 :: []))) (E.most .i)) then (some (((r0.1.1.1, (r0.1.1.2.1, (r0.1.1.2.2.1, (r0.1.1.2.2.2.1, (r0.1.1.2.2.2.2.1, (r0.1.1.2.2.2.2.2.1, (r0.1.1.2.2.2.2.2.2.1, (a7.1, (a9, ((a8.2.1 ++ (r0.1.2.1 :: [])), ())))))))))), (true, ())), ())) else none) else some (((r0.1.1.1, (r0.1.1.2.1, (r0.1.1.2.2.1, (r0.1.1.2.2.2.1, (r0.1.1.2.2.2.2.1, (r0.1.1.2.2.2.2.2.1, (r0.1.1.2.2.2.2.2.2.1, a7))))))), (true, ())), ()); bif (ltI 0 (lenI a9)) then (bif (ltI 0 (lenI a9)) then (bif (eqI (rdE .t a9 (0 : Int)).1 a0.1) then (bif (ltI 0 (lenI a9)) then (bif (leI 1 (lenI a9)) then (bif (leN (0 + (List.length (List.drop (Int.toNat (1 : Int)) a9))) (E.most .t)) then ((c215 ((a0.1, (a1.1, (a2.1, (a3.1, (a4.1, (a5.1, (a6.1, ()))))))), ((rdE .t a9 (0 : Int)).2.1, ((rdE .t a9 (0 : Int)).2.2, ())))).bind fun r0 => some (((r0.1.1.1, (r0.1.1.2.1, (r0.1.1.2.2.1, (r0.1.1.2.2.2.1, (r0.1.1.2.2.2.2.1, (r0.1.1.2.2.2.2.2.1, (r0.1.1.2.2.2.2.2.2.1, (a7.1, (([] ++ (List.drop (Int.toNat (1 : Int)) a9)), a8.2))))))))), (true, ())), ())) else none) else none) else none) else X0) else none) else X0
theorem s112 (c215 : F215) (c216 : F216) (y) : TE [g215 c215, g216 c216] Tryz.f112 i112 o112 y = m112 c215 c216 y := by kernel_rfl
noncomputable def r112 : F112 := m112 r215 r216 
theorem k112 : KO (g112 r112) := fk (s112 r215 r216) ⟨k215, k216, ⟨⟩⟩ (by kernel_rfl)
abbrev i61 : Ts := [.a q5, .v (.int .i64)]
abbrev o61 : Ts := [.a q15]
abbrev F61 := FT i61 o61
abbrev g61 := mkG 61 i61 o61
abbrev lc61_0 : Ts := [.v (.int .i64)]
abbrev lb61_0 : Ts := [.p q15]
abbrev lv61_0 : Ts := [.v (.bool)]
abbrev lr61_0 : Ts := []
abbrev R61_0 := Option (Sum (PTup lv61_0) (PTup lr61_0) × BTup lb61_0)
abbrev B61_0 := PTup lb61_0 → PTup lv61_0 → R61_0
abbrev A61_0 := PTup lc61_0 → B61_0
noncomputable def w61_0 (c140 : F140) (c112 : F112) (c135 : F135) (again : B61_0) (x : PTup lc61_0) (y : PTup lb61_0) (z : PTup lv61_0) : R61_0 :=
  bif z.1 then ((c112 (y.1, x)).bind fun r0 =>
   again (r0.1.1, ()) r0.1.2)
  else some ((Sum.inl z), (y.1, ()))
noncomputable def e61_0 (l : A61_0) : LoopE := ⟨[1], lc61_0, [5], lb61_0, [6], lv61_0, [], lr61_0, 0, [], l⟩
noncomputable def m61 (c140 : F140) (c112 : F112) (c135 : F135) (l0 : A61_0) (y : PTup i61) : Option (PTup o61 × BTup i61) :=
  (c140 (y.1, ())).bind fun r0 =>
  bif (!r0.1.1) then (some ((((0 : Int), ((0 : Int), ((0 : Int), ((0 : Int), ((0 : Int), (false, (false, ((0 : Int), ([], ([], ())))))))))), ()), ()))
  else (c135 (y.1, ())).bind fun r1 =>
  (l0 y.2 (r1.1.1, ()) (true, ())).bind fun r2 =>
  sumElim r2.1 (fun r3 => some ((r2.2.1, ()), ()))
  (fun r3 => some ((((0 : Int), ((0 : Int), ((0 : Int), ((0 : Int), ((0 : Int), (false, (false, ((0 : Int), ([], ([], ())))))))))), ()), ()))
noncomputable def E61 (c140 : F140) (c112 : F112) (c135 : F135) (l0 : A61_0) : CEnv := ⟨⟨Tryz.prog, fnsL [g140 c140, g112 c112, g135 c135]⟩, loopsL [(5, e61_0 l0)]⟩
theorem t61_0 (c140 : F140) (c112 : F112) (c135 : F135) (l0 : A61_0) (again) (x y z) : loopRound (E61 c140 c112 c135 l0) (loopAt (bodyOf Tryz.f61) 0) (e61_0 l0) Tryz.f61.ntmps again x y z = w61_0 c140 c112 c135 again x y z := by kernel_rfl
noncomputable def n61_0 (c140 : F140) (c112 : F112) (c135 : F135) : Nat → A61_0
  | 0, _, _, _ => none
  | n + 1, x, y, z => w61_0 c140 c112 c135 (fun y z => n61_0 c140 c112 c135 n x y z) x y z
theorem s61 (c140 : F140) (c112 : F112) (c135 : F135) (l0 : A61_0) (y) : tevF (E61 c140 c112 c135 l0) Tryz.f61 i61 o61 y = m61 c140 c112 c135 l0 y := by kernel_rfl
noncomputable def L61_0 : A61_0 := n61_0 r140 r112 r135 fuel
noncomputable def r61 : F61 := m61 r140 r112 r135 L61_0
theorem k61 : KO (g61 r61) := by
  have hE : ∀ g f, (E61 r140 r112 r135 L61_0).env.fns g = some f → CallOk Tryz.prog g f := fnsL_ok ⟨k140, k112, k135, ⟨⟩⟩
  have h0 : LoopOk Tryz.prog Tryz.f61.ntmps (loopAt (bodyOf Tryz.f61) 0) (e61_0 L61_0) := lp_ok (E := E61 r140 r112 r135 L61_0) rfl hE mixed (AllLoops.of_list (l := []) (by kernel_rfl) trivial) (n61_0 r140 r112 r135 ) (fun _ _ _ => rfl) (fun n x y z => t61_0 r140 r112 r135 L61_0 _ x y z) rfl
  exact fn_ok (E := E61 r140 r112 r135 L61_0) rfl hE mixed (by kernel_rfl) (by kernel_rfl) (AllLoops.of_list (l := [(loopAt (bodyOf Tryz.f61) 0)]) (by kernel_rfl) (.one (by kernel_rfl) h0 trivial)) (s61 r140 r112 r135 L61_0)
abbrev i16 : Ts := [.a q6]
abbrev o16 : Ts := [.a q16]
abbrev F16 := FT i16 o16
abbrev g16 := mkG 16 i16 o16
noncomputable def m16 (c60 : F60) (c61 : F61) (c59 : F59) (c58 : F58) (y : PTup i16) : Option (PTup o16 × BTup i16) :=
  let a0 := y.1; let a1 := a0.2; let a2 := a1.2; let a3 := a2.2; let a4 := a3.2; let a5 := a4.2; let a6 := a5.2; let a7 := a6.2; let a8 := a7.2; let a9 := a8.2; let a10 := a9.2.2; let a11 := a10.2; let a12 := a11.2; let a13 := a12.2; let a14 := a13.2; let a15 := a14.2; let a16 := a15.2; let a17 := a16.2; let a18 := a17.2; let a19 := a18.2; let a20 := a19.2; let a21 := a20.2; let a22 := a21.2; let a23 := a22.2.2; let a24 := a23.2.2; (c58 (a0, ())).bind fun r0 => let b0 := r0.1; let b1 := b0.1; let b2 := b1.2; let b3 := b2.2; let b4 := b3.2; let b5 := b4.2; let b6 := b5.2; let b7 := b6.2; let b8 := b7.2; let b9 := b8.2; let b10 := b9.2.2; let b11 := b10.2; let b12 := b11.2.2; let b13 := b12.2.2; (c59 (a0, ())).bind fun r1 =>
  bif (!r1.1.1) then (some ((b1, ()), ()))
  else (c60 ((a20.1, (a21.1, (a22.1, (a22.2.1, (a23.1, (a23.2.1, (a24.1, (a24.2.1, (a24.2.2.1, (a24.2.2.2.1, (a24.2.2.2.2.1, ()))))))))))), (a13.1, ()))).bind fun r2 =>
  (c61 (a24.2.2.2.2.2, (a13.1, ()))).bind fun r3 =>
  some (((b1.1, (b2.1, (b3.1, (b4.1, (b5.1, (b6.1, (b7.1, (b8.1, (b9.1, (b9.2.1, (b10.1, (b11.1, (b11.2.1, (b12.1, (b12.2.1, (b13.1, (b13.2.1, (b13.2.2.1, (b13.2.2.2.1, (b13.2.2.2.2.1, (b13.2.2.2.2.2.1, (r2.1.1.1, (r2.1.1.2.1, (r2.1.1.2.2.1, (r2.1.1.2.2.2.1, (r2.1.1.2.2.2.2.1, (r2.1.1.2.2.2.2.2.1, (r2.1.1.2.2.2.2.2.2.1, (r2.1.1.2.2.2.2.2.2.2.1, (r2.1.1.2.2.2.2.2.2.2.2.1, (r2.1.1.2.2.2.2.2.2.2.2.2.1, (r2.1.1.2.2.2.2.2.2.2.2.2.2.1, r3.1.1)))))))))))))))))))))))))))))))), ()), ())
theorem s16 (c60 : F60) (c61 : F61) (c59 : F59) (c58 : F58) (y) : TE [g60 c60, g61 c61, g59 c59, g58 c58] Tryz.f16 i16 o16 y = m16 c60 c61 c59 c58 y := by kernel_rfl
noncomputable def r16 : F16 := m16 r60 r61 r59 r58 
theorem k16 : KO (g16 r16) := fk (s16 r60 r61 r59 r58) ⟨k60, k61, k59, k58, ⟨⟩⟩ (by kernel_rfl)
abbrev i147 : Ts := [.v (.sl false .i)]
abbrev o147 : Ts := [.v (.sl true .i)]
abbrev F147 := FT i147 o147
abbrev g147 := mkG 147 i147 o147
noncomputable def m147 (y : PTup i147) : Option (PTup o147 × BTup i147) :=
  bif (leN (0 + (List.length y.1)) (E.most .i)) then (some ((([] ++ y.1), ()), ()))
  else none
theorem s147 (y) : TE [] Tryz.f147 i147 o147 y = m147 y := by kernel_rfl
noncomputable def r147 : F147 := m147 
theorem k147 : KO (g147 r147) := fk (s147 ) trivial (by kernel_rfl)
abbrev i146 : Ts := [.a q0]
abbrev o146 : Ts := [.a [.sl true .n]]
abbrev F146 := FT i146 o146
abbrev g146 := mkG 146 i146 o146
abbrev lc146_0 : Ts := [.v (.sl false .n), .v (.int .i64)]
abbrev lb146_0 : Ts := [.p [.sl true .n]]
abbrev lv146_0 : Ts := [.v (.int .i64)]
abbrev lr146_0 : Ts := []
abbrev R146_0 := Option (Sum (PTup lv146_0) (PTup lr146_0) × BTup lb146_0)
abbrev B146_0 := PTup lb146_0 → PTup lv146_0 → R146_0
abbrev A146_0 := PTup lc146_0 → B146_0
noncomputable def w146_0 (c147 : F147) (again : B146_0) (x : PTup lc146_0) (y : PTup lb146_0) (z : PTup lv146_0) : R146_0 :=
  bif (ltI z.1 x.2.1) then (bif (leI 0 z.1) then (bif (ltI z.1 (lenI x.1)) then ((c147 ((rdE .n x.1 z.1), ())).bind fun r0 =>
     bif (leN ((List.length y.1.1) + (List.length (r0.1.1 :: []))) (E.most .n)) then (again (((y.1.1 ++ (r0.1.1 :: [])), ()), ()) ((wI (z.1 + 1)), ()))
     else none)
    else none)
   else none)
  else some ((Sum.inl z), (y.1, ()))
noncomputable def e146_0 (l : A146_0) : LoopE := ⟨[8, 9], lc146_0, [3], lb146_0, [10], lv146_0, [], lr146_0, 0, [], l⟩
noncomputable def m146 (c147 : F147) (l0 : A146_0) (y : PTup i146) : Option (PTup o146 × BTup i146) :=
  (l0 (y.1.1, ((lenI y.1.1), ())) (([], ()), ()) ((0 : Int), ())).bind fun r0 =>
  sumElim r0.1 (fun r1 => some ((r0.2.1, ()), ()))
  (fun r1 => some ((([], ()), ()), ()))
noncomputable def E146 (c147 : F147) (l0 : A146_0) : CEnv := ⟨⟨Tryz.prog, fnsL [g147 c147]⟩, loopsL [(3, e146_0 l0)]⟩
theorem t146_0 (c147 : F147) (l0 : A146_0) (again) (x y z) : loopRound (E146 c147 l0) (loopAt (bodyOf Tryz.f146) 0) (e146_0 l0) Tryz.f146.ntmps again x y z = w146_0 c147 again x y z := by kernel_rfl
noncomputable def n146_0 (c147 : F147) : Nat → A146_0
  | 0, _, _, _ => none
  | n + 1, x, y, z => w146_0 c147 (fun y z => n146_0 c147 n x y z) x y z
theorem s146 (c147 : F147) (l0 : A146_0) (y) : tevF (E146 c147 l0) Tryz.f146 i146 o146 y = m146 c147 l0 y := by kernel_rfl
noncomputable def L146_0 : A146_0 := n146_0 r147 fuel
noncomputable def r146 : F146 := m146 r147 L146_0
theorem k146 : KO (g146 r146) := by
  have hE : ∀ g f, (E146 r147 L146_0).env.fns g = some f → CallOk Tryz.prog g f := fnsL_ok ⟨k147, ⟨⟩⟩
  have h0 : LoopOk Tryz.prog Tryz.f146.ntmps (loopAt (bodyOf Tryz.f146) 0) (e146_0 L146_0) := lp_ok (E := E146 r147 L146_0) rfl hE mixed (AllLoops.of_list (l := []) (by kernel_rfl) trivial) (n146_0 r147 ) (fun _ _ _ => rfl) (fun n x y z => t146_0 r147 L146_0 _ x y z) rfl
  exact fn_ok (E := E146 r147 L146_0) rfl hE mixed (by kernel_rfl) (by kernel_rfl) (AllLoops.of_list (l := [(loopAt (bodyOf Tryz.f146) 0)]) (by kernel_rfl) (.one (by kernel_rfl) h0 trivial)) (s146 r147 L146_0)
abbrev i148 : Ts := [.a q1]
abbrev o148 : Ts := [.a q7]
abbrev F148 := FT i148 o148
abbrev g148 := mkG 148 i148 o148
noncomputable def m148 (c147 : F147) (y : PTup i148) : Option (PTup o148 × BTup i148) :=
  (c147 (y.1.1, ())).bind fun r0 =>
  some (((r0.1.1, y.1.2), ()), ())
theorem s148 (c147 : F147) (y) : TE [g147 c147] Tryz.f148 i148 o148 y = m148 c147 y := by kernel_rfl
noncomputable def r148 : F148 := m148 r147 
theorem k148 : KO (g148 r148) := fk (s148 r147) ⟨k147, ⟨⟩⟩ (by kernel_rfl)
abbrev i178 : Ts := [.a q2]
abbrev o178 : Ts := [.a q10]
abbrev F178 := FT i178 o178
abbrev g178 := mkG 178 i178 o178
noncomputable def m178 (c147 : F147) (y : PTup i178) : Option (PTup o178 × BTup i178) :=
  (c147 (y.1.2.2.2.2.2.2.1, ())).bind fun r0 =>
  (c147 y.1.2.2.2.2.2.2.2).bind fun r1 =>
  some (((y.1.1, (y.1.2.1, (y.1.2.2.1, (y.1.2.2.2.1, (y.1.2.2.2.2.1, (y.1.2.2.2.2.2.1, (r0.1.1, r1.1))))))), ()), ())
theorem s178 (c147 : F147) (y) : TE [g147 c147] Tryz.f178 i178 o178 y = m178 c147 y := by kernel_rfl
noncomputable def r178 : F178 := m178 r147 
theorem k178 : KO (g178 r178) := fk (s178 r147) ⟨k147, ⟨⟩⟩ (by kernel_rfl)
abbrev i234 : Ts := [.a q3]
abbrev o234 : Ts := [.a q12]
abbrev F234 := FT i234 o234
abbrev g234 := mkG 234 i234 o234
noncomputable def m234 (y : PTup i234) : Option (PTup o234 × BTup i234) :=
  bif (leN (0 + (List.length y.1.2.1)) (E.most .t)) then (some (((y.1.1, (([] ++ y.1.2.1), ())), ()), ()))
  else none
theorem s234 (y) : TE [] Tryz.f234 i234 o234 y = m234 y := by kernel_rfl
noncomputable def r234 : F234 := m234 
theorem k234 : KO (g234 r234) := fk (s234 ) trivial (by kernel_rfl)
abbrev i179 : Ts := [.v (.sl false .n)]
abbrev o179 : Ts := [.v (.sl true .n)]
abbrev F179 := FT i179 o179
abbrev g179 := mkG 179 i179 o179
abbrev lc179_0 : Ts := [.v (.sl false .n), .v (.int .i64)]
abbrev lb179_0 : Ts := []
abbrev lv179_0 : Ts := [.v (.sl true .n), .v (.int .i64)]
abbrev lr179_0 : Ts := []
abbrev R179_0 := Option (Sum (PTup lv179_0) (PTup lr179_0) × BTup lb179_0)
abbrev B179_0 := PTup lb179_0 → PTup lv179_0 → R179_0
abbrev A179_0 := PTup lc179_0 → B179_0
noncomputable def w179_0 (c147 : F147) (again : B179_0) (x : PTup lc179_0) (y : PTup lb179_0) (z : PTup lv179_0) : R179_0 :=
  bif (ltI z.2.1 x.2.1) then (bif (leI 0 z.2.1) then (bif (ltI z.2.1 (lenI x.1)) then ((c147 ((rdE .n x.1 z.2.1), ())).bind fun r0 =>
     bif (leN ((List.length z.1) + (List.length (r0.1.1 :: []))) (E.most .n)) then (again () ((z.1 ++ (r0.1.1 :: [])), ((wI (z.2.1 + 1)), ())))
     else none)
    else none)
   else none)
  else some ((Sum.inl z), ())
noncomputable def e179_0 (l : A179_0) : LoopE := ⟨[7, 8], lc179_0, [], lb179_0, [3, 9], lv179_0, [], lr179_0, 0, [], l⟩
noncomputable def m179 (c147 : F147) (l0 : A179_0) (y : PTup i179) : Option (PTup o179 × BTup i179) :=
  (l0 (y.1, ((lenI y.1), ())) () ([], ((0 : Int), ()))).bind fun r0 =>
  sumElim r0.1 (fun r1 => some ((r1.1, ()), ()))
  (fun r1 => some (([], ()), ()))
noncomputable def E179 (c147 : F147) (l0 : A179_0) : CEnv := ⟨⟨Tryz.prog, fnsL [g147 c147]⟩, loopsL [(3, e179_0 l0)]⟩
theorem t179_0 (c147 : F147) (l0 : A179_0) (again) (x y z) : loopRound (E179 c147 l0) (loopAt (bodyOf Tryz.f179) 0) (e179_0 l0) Tryz.f179.ntmps again x y z = w179_0 c147 again x y z := by kernel_rfl
noncomputable def n179_0 (c147 : F147) : Nat → A179_0
  | 0, _, _, _ => none
  | n + 1, x, y, z => w179_0 c147 (fun y z => n179_0 c147 n x y z) x y z
theorem s179 (c147 : F147) (l0 : A179_0) (y) : tevF (E179 c147 l0) Tryz.f179 i179 o179 y = m179 c147 l0 y := by kernel_rfl
noncomputable def L179_0 : A179_0 := n179_0 r147 fuel
noncomputable def r179 : F179 := m179 r147 L179_0
theorem k179 : KO (g179 r179) := by
  have hE : ∀ g f, (E179 r147 L179_0).env.fns g = some f → CallOk Tryz.prog g f := fnsL_ok ⟨k147, ⟨⟩⟩
  have h0 : LoopOk Tryz.prog Tryz.f179.ntmps (loopAt (bodyOf Tryz.f179) 0) (e179_0 L179_0) := lp_ok (E := E179 r147 L179_0) rfl hE mixed (AllLoops.of_list (l := []) (by kernel_rfl) trivial) (n179_0 r147 ) (fun _ _ _ => rfl) (fun n x y z => t179_0 r147 L179_0 _ x y z) rfl
  exact fn_ok (E := E179 r147 L179_0) rfl hE mixed (by kernel_rfl) (by kernel_rfl) (AllLoops.of_list (l := [(loopAt (bodyOf Tryz.f179) 0)]) (by kernel_rfl) (.one (by kernel_rfl) h0 trivial)) (s179 r147 L179_0)
abbrev i149 : Ts := [.a q4]
abbrev o149 : Ts := [.a q13]
abbrev F149 := FT i149 o149
abbrev g149 := mkG 149 i149 o149
noncomputable def m149 (c179 : F179) (c178 : F178) (c234 : F234) (y : PTup i149) : Option (PTup o149 × BTup i149) :=
  (c178 ((y.1.1, (y.1.2.1, (y.1.2.2.1, (y.1.2.2.2.1, (y.1.2.2.2.2.1, (y.1.2.2.2.2.2.1, (y.1.2.2.2.2.2.2.1, (y.1.2.2.2.2.2.2.2.1, ())))))))), ())).bind fun r0 =>
  (c234 ((y.1.2.2.2.2.2.2.2.2.1, (y.1.2.2.2.2.2.2.2.2.2.1, ())), ())).bind fun r1 =>
  (c179 y.1.2.2.2.2.2.2.2.2.2.2).bind fun r2 =>
  some (((r0.1.1.1, (r0.1.1.2.1, (r0.1.1.2.2.1, (r0.1.1.2.2.2.1, (r0.1.1.2.2.2.2.1, (r0.1.1.2.2.2.2.2.1, (r0.1.1.2.2.2.2.2.2.1, (r0.1.1.2.2.2.2.2.2.2.1, (r1.1.1.1, (r1.1.1.2.1, r2.1)))))))))), ()), ())
theorem s149 (c179 : F179) (c178 : F178) (c234 : F234) (y) : TE [g179 c179, g178 c178, g234 c234] Tryz.f149 i149 o149 y = m149 c179 c178 c234 y := by kernel_rfl
noncomputable def r149 : F149 := m149 r179 r178 r234 
theorem k149 : KO (g149 r149) := fk (s149 r179 r178 r234) ⟨k179, k178, k234, ⟨⟩⟩ (by kernel_rfl)
abbrev i150 : Ts := [.a q5]
abbrev o150 : Ts := [.a q15]
abbrev F150 := FT i150 o150
abbrev g150 := mkG 150 i150 o150
noncomputable def m150 (c147 : F147) (c234 : F234) (y : PTup i150) : Option (PTup o150 × BTup i150) :=
  (c234 ((y.1.2.2.2.2.2.2.2.1, (y.1.2.2.2.2.2.2.2.2.1, ())), ())).bind fun r0 =>
  (c147 y.1.2.2.2.2.2.2.2.2.2).bind fun r1 =>
  some (((y.1.1, (y.1.2.1, (y.1.2.2.1, (y.1.2.2.2.1, (y.1.2.2.2.2.1, (y.1.2.2.2.2.2.1, (y.1.2.2.2.2.2.2.1, (r0.1.1.1, (r0.1.1.2.1, r1.1))))))))), ()), ())
theorem s150 (c147 : F147) (c234 : F234) (y) : TE [g147 c147, g234 c234] Tryz.f150 i150 o150 y = m150 c147 c234 y := by kernel_rfl
noncomputable def r150 : F150 := m150 r147 r234 
theorem k150 : KO (g150 r150) := fk (s150 r147 r234) ⟨k147, k234, ⟨⟩⟩ (by kernel_rfl)
abbrev i68 : Ts := [.a q6]
abbrev o68 : Ts := [.a q16]
abbrev F68 := FT i68 o68
abbrev g68 := mkG 68 i68 o68
noncomputable def m68 (c146 : F146) (c147 : F147) (c148 : F148) (c149 : F149) (c150 : F150) (y : PTup i68) : Option (PTup o68 × BTup i68) :=
  let a0 := y.1; let a1 := a0.2; let a2 := a1.2; let a3 := a2.2; let a4 := a3.2; let a5 := a4.2; let a6 := a5.2; let a7 := a6.2; let a8 := a7.2; let a9 := a8.2; let a10 := a9.2; let a11 := a10.2; let a12 := a11.2; let a13 := a12.2; let a14 := a13.2; let a15 := a14.2; let a16 := a15.2; let a17 := a16.2; let a18 := a17.2; let a19 := a18.2; let a20 := a19.2; let a21 := a20.2; let a22 := a21.2; let a23 := a22.2; let a24 := a23.2.2; let a25 := a24.2.2; (c146 ((a0.1, ()), ())).bind fun r0 =>
  (c147 (a1.1, ())).bind fun r1 =>
  (c148 ((a2.1, (a3.1, ())), ())).bind fun r2 =>
  (c147 (a20.1, ())).bind fun r3 =>
  (c149 ((a21.1, (a22.1, (a23.1, (a23.2.1, (a24.1, (a24.2.1, (a25.1, (a25.2.1, (a25.2.2.1, (a25.2.2.2.1, (a25.2.2.2.2.1, ()))))))))))), ())).bind fun r4 =>
  (c150 (a25.2.2.2.2.2, ())).bind fun r5 =>
  some (((r0.1.1.1, (r1.1.1, (r2.1.1.1, (r2.1.1.2.1, (a4.1, (a5.1, (a6.1, (a7.1, (a8.1, (a9.1, (a10.1, (a11.1, (a12.1, (a13.1, (a14.1, (a15.1, (a16.1, (a17.1, (a18.1, (a19.1, (r3.1.1, (r4.1.1.1, (r4.1.1.2.1, (r4.1.1.2.2.1, (r4.1.1.2.2.2.1, (r4.1.1.2.2.2.2.1, (r4.1.1.2.2.2.2.2.1, (r4.1.1.2.2.2.2.2.2.1, (r4.1.1.2.2.2.2.2.2.2.1, (r4.1.1.2.2.2.2.2.2.2.2.1, (r4.1.1.2.2.2.2.2.2.2.2.2.1, (r4.1.1.2.2.2.2.2.2.2.2.2.2.1, r5.1.1)))))))))))))))))))))))))))))))), ()), ())
theorem s68 (c146 : F146) (c147 : F147) (c148 : F148) (c149 : F149) (c150 : F150) (y) : TE [g146 c146, g147 c147, g148 c148, g149 c149, g150 c150] Tryz.f68 i68 o68 y = m68 c146 c147 c148 c149 c150 y := by kernel_rfl
noncomputable def r68 : F68 := m68 r146 r147 r148 r149 r150 
theorem k68 : KO (g68 r68) := fk (s68 r146 r147 r148 r149 r150) ⟨k146, k147, k148, k149, k150, ⟨⟩⟩ (by kernel_rfl)
abbrev i158 : Ts := [.v (.int .i64), .v (.int .i64), .v (.int .i64)]
abbrev o158 : Ts := [.v (.bool)]
abbrev F158 := FT i158 o158
abbrev g158 := mkG 158 i158 o158
noncomputable def m158 (y : PTup i158) : Option (PTup o158 × BTup i158) :=
  bif (leI y.2.1 y.1) then (some (((leI y.1 y.2.2.1), ()), ()))
  else no
theorem s158 (y) : TE [] Tryz.f158 i158 o158 y = m158 y := by kernel_rfl
noncomputable def r158 : F158 := m158 
theorem k158 : KO (g158 r158) := fk (s158 ) trivial (by kernel_rfl)
abbrev i156 : Ts := [.v (.int .i64)]
abbrev o156 : Ts := [.v (.bool)]
abbrev F156 := FT i156 o156
abbrev g156 := mkG 156 i156 o156
noncomputable def m156 (c158 : F158) (y : PTup i156) : Option (PTup o156 × BTup i156) :=
  (c158 (y.1, ((0 : Int), ((255 : Int), ())))).bind fun r0 =>
  some (r0.1, ())
theorem s156 (c158 : F158) (y) : TE [g158 c158] Tryz.f156 i156 o156 y = m156 c158 y := by kernel_rfl
noncomputable def r156 : F156 := m156 r158 
theorem k156 : KO (g156 r156) := fk (s156 r158) ⟨k158, ⟨⟩⟩ (by kernel_rfl)
abbrev i236 : Ts := [.v (.sl false .i)]
abbrev o236 : Ts := [.v (.bool)]
abbrev F236 := FT i236 o236
abbrev g236 := mkG 236 i236 o236
abbrev lc236_0 : Ts := [.v (.sl false .i), .v (.int .i64)]
abbrev lb236_0 : Ts := []
abbrev lv236_0 : Ts := [.v (.int .i64)]
abbrev lr236_0 : Ts := [.v (.bool)]
abbrev R236_0 := Option (Sum (PTup lv236_0) (PTup lr236_0) × BTup lb236_0)
abbrev B236_0 := PTup lb236_0 → PTup lv236_0 → R236_0
abbrev A236_0 := PTup lc236_0 → B236_0
noncomputable def w236_0 (c156 : F156) (again : B236_0) (x : PTup lc236_0) (y : PTup lb236_0) (z : PTup lv236_0) : R236_0 :=
  bif (ltI z.1 x.2.1) then (bif (leI 0 z.1) then (bif (ltI z.1 (lenI x.1)) then ((c156 ((rdE .i x.1 z.1), ())).bind fun r0 =>
     bif (!r0.1.1) then (some ((Sum.inr (false, ())), ()))
     else again () ((wI (z.1 + 1)), ()))
    else none)
   else none)
  else some ((Sum.inl z), ())
noncomputable def e236_0 (l : A236_0) : LoopE := ⟨[5, 6], lc236_0, [], lb236_0, [7], lv236_0, [2], lr236_0, 0, [], l⟩
noncomputable def m236 (c156 : F156) (l0 : A236_0) (y : PTup i236) : Option (PTup o236 × BTup i236) :=
  (l0 (y.1, ((lenI y.1), ())) () ((0 : Int), ())).bind fun r0 =>
  sumElim r0.1 (fun r1 => some ((true, ()), ()))
  (fun r1 => some (r1, ()))
noncomputable def E236 (c156 : F156) (l0 : A236_0) : CEnv := ⟨⟨Tryz.prog, fnsL [g156 c156]⟩, loopsL [(2, e236_0 l0)]⟩
theorem t236_0 (c156 : F156) (l0 : A236_0) (again) (x y z) : loopRound (E236 c156 l0) (loopAt (bodyOf Tryz.f236) 0) (e236_0 l0) Tryz.f236.ntmps again x y z = w236_0 c156 again x y z := by kernel_rfl
noncomputable def n236_0 (c156 : F156) : Nat → A236_0
  | 0, _, _, _ => none
  | n + 1, x, y, z => w236_0 c156 (fun y z => n236_0 c156 n x y z) x y z
theorem s236 (c156 : F156) (l0 : A236_0) (y) : tevF (E236 c156 l0) Tryz.f236 i236 o236 y = m236 c156 l0 y := by kernel_rfl
noncomputable def L236_0 : A236_0 := n236_0 r156 fuel
noncomputable def r236 : F236 := m236 r156 L236_0
theorem k236 : KO (g236 r236) := by
  have hE : ∀ g f, (E236 r156 L236_0).env.fns g = some f → CallOk Tryz.prog g f := fnsL_ok ⟨k156, ⟨⟩⟩
  have h0 : LoopOk Tryz.prog Tryz.f236.ntmps (loopAt (bodyOf Tryz.f236) 0) (e236_0 L236_0) := lp_ok (E := E236 r156 L236_0) rfl hE mixed (AllLoops.of_list (l := []) (by kernel_rfl) trivial) (n236_0 r156 ) (fun _ _ _ => rfl) (fun n x y z => t236_0 r156 L236_0 _ x y z) rfl
  exact fn_ok (E := E236 r156 L236_0) rfl hE mixed (by kernel_rfl) (by kernel_rfl) (AllLoops.of_list (l := [(loopAt (bodyOf Tryz.f236) 0)]) (by kernel_rfl) (.one (by kernel_rfl) h0 trivial)) (s236 r156 L236_0)
abbrev i235 : Ts := [.a q0]
abbrev o235 : Ts := [.v (.bool)]
abbrev F235 := FT i235 o235
abbrev g235 := mkG 235 i235 o235
abbrev lc235_0 : Ts := [.v (.sl false .n), .v (.int .i64)]
abbrev lb235_0 : Ts := []
abbrev lv235_0 : Ts := [.v (.int .i64)]
abbrev lr235_0 : Ts := [.v (.bool)]
abbrev R235_0 := Option (Sum (PTup lv235_0) (PTup lr235_0) × BTup lb235_0)
abbrev B235_0 := PTup lb235_0 → PTup lv235_0 → R235_0
abbrev A235_0 := PTup lc235_0 → B235_0
noncomputable def w235_0 (c236 : F236) (c158 : F158) (again : B235_0) (x : PTup lc235_0) (y : PTup lb235_0) (z : PTup lv235_0) : R235_0 :=
  bif (ltI z.1 x.2.1) then (bif (leI 0 z.1) then (bif (ltI z.1 (lenI x.1)) then (bif (neI (lenI (rdE .n x.1 z.1)) (256 : Int)) then (some ((Sum.inr (false, ())), ()))
     else (c236 ((rdE .n x.1 z.1), ())).bind fun r0 =>
     bif (!r0.1.1) then (some ((Sum.inr (false, ())), ()))
     else again () ((wI (z.1 + 1)), ()))
    else none)
   else none)
  else some ((Sum.inl z), ())
noncomputable def e235_0 (l : A235_0) : LoopE := ⟨[6, 7], lc235_0, [], lb235_0, [8], lv235_0, [2], lr235_0, 0, [], l⟩
noncomputable def m235 (c236 : F236) (c158 : F158) (l0 : A235_0) (y : PTup i235) : Option (PTup o235 × BTup i235) :=
  (l0 (y.1.1, ((lenI y.1.1), ())) () ((0 : Int), ())).bind fun r0 =>
  sumElim r0.1 (fun r1 => (c158 ((lenI y.1.1), ((1 : Int), ((8 : Int), ())))).bind fun r2 =>
   some (r2.1, ()))
  (fun r1 => some (r1, ()))
noncomputable def E235 (c236 : F236) (c158 : F158) (l0 : A235_0) : CEnv := ⟨⟨Tryz.prog, fnsL [g236 c236, g158 c158]⟩, loopsL [(2, e235_0 l0)]⟩
theorem t235_0 (c236 : F236) (c158 : F158) (l0 : A235_0) (again) (x y z) : loopRound (E235 c236 c158 l0) (loopAt (bodyOf Tryz.f235) 0) (e235_0 l0) Tryz.f235.ntmps again x y z = w235_0 c236 c158 again x y z := by kernel_rfl
noncomputable def n235_0 (c236 : F236) (c158 : F158) : Nat → A235_0
  | 0, _, _, _ => none
  | n + 1, x, y, z => w235_0 c236 c158 (fun y z => n235_0 c236 c158 n x y z) x y z
theorem s235 (c236 : F236) (c158 : F158) (l0 : A235_0) (y) : tevF (E235 c236 c158 l0) Tryz.f235 i235 o235 y = m235 c236 c158 l0 y := by kernel_rfl
noncomputable def L235_0 : A235_0 := n235_0 r236 r158 fuel
noncomputable def r235 : F235 := m235 r236 r158 L235_0
theorem k235 : KO (g235 r235) := by
  have hE : ∀ g f, (E235 r236 r158 L235_0).env.fns g = some f → CallOk Tryz.prog g f := fnsL_ok ⟨k236, k158, ⟨⟩⟩
  have h0 : LoopOk Tryz.prog Tryz.f235.ntmps (loopAt (bodyOf Tryz.f235) 0) (e235_0 L235_0) := lp_ok (E := E235 r236 r158 L235_0) rfl hE mixed (AllLoops.of_list (l := []) (by kernel_rfl) trivial) (n235_0 r236 r158 ) (fun _ _ _ => rfl) (fun n x y z => t235_0 r236 r158 L235_0 _ x y z) rfl
  exact fn_ok (E := E235 r236 r158 L235_0) rfl hE mixed (by kernel_rfl) (by kernel_rfl) (AllLoops.of_list (l := [(loopAt (bodyOf Tryz.f235) 0)]) (by kernel_rfl) (.one (by kernel_rfl) h0 trivial)) (s235 r236 r158 L235_0)
abbrev i151 : Ts := [.a q0, .a q1]
abbrev o151 : Ts := [.v (.bool)]
abbrev F151 := FT i151 o151
abbrev g151 := mkG 151 i151 o151
noncomputable def m151 (c235 : F235) (c236 : F236) (c158 : F158) (y : PTup i151) : Option (PTup o151 × BTup i151) :=
  (c235 (y.1, ())).bind fun r0 =>
  bif r0.1.1 then (bif (eqI (lenI y.2.1.1) 512) then ((c236 (y.2.1.1, ())).bind fun r1 =>
    bif r1.1.1 then ((c158 (y.2.1.2.1, ((0 : Int), ((wI ((lenI y.1.1) - 1)), ())))).bind fun r2 =>
     some (r2.1, ()))
    else no)
   else no)
  else no
theorem s151 (c235 : F235) (c236 : F236) (c158 : F158) (y) : TE [g235 c235, g236 c236, g158 c158] Tryz.f151 i151 o151 y = m151 c235 c236 c158 y := by kernel_rfl
noncomputable def r151 : F151 := m151 r235 r236 r158 
theorem k151 : KO (g151 r151) := fk (s151 r235 r236 r158) ⟨k235, k236, k158, ⟨⟩⟩ (by kernel_rfl)
abbrev i152 : Ts := [.v (.sl false .i)]
abbrev o152 : Ts := [.v (.bool)]
abbrev F152 := FT i152 o152
abbrev g152 := mkG 152 i152 o152
noncomputable def m152 (c236 : F236) (y : PTup i152) : Option (PTup o152 × BTup i152) :=
  bif (leI (lenI y.1) 20) then ((c236 y).bind fun r0 =>
   some (r0.1, ()))
  else no
theorem s152 (c236 : F236) (y) : TE [g236 c236] Tryz.f152 i152 o152 y = m152 c236 y := by kernel_rfl
noncomputable def r152 : F152 := m152 r236 
theorem k152 : KO (g152 r152) := fk (s152 r236) ⟨k236, ⟨⟩⟩ (by kernel_rfl)
abbrev i153 : Ts := [.a q8]
abbrev o153 : Ts := [.v (.bool)]
abbrev F153 := FT i153 o153
abbrev g153 := mkG 153 i153 o153
noncomputable def m153 (c156 : F156) (c158 : F158) (y : PTup i153) : Option (PTup o153 × BTup i153) :=
  (c156 (y.1.1, ())).bind fun r0 =>
  bif r0.1.1 then ((c156 (y.1.2.1, ())).bind fun r1 =>
   bif r1.1.1 then ((c156 (y.1.2.2.1, ())).bind fun r2 =>
    bif r2.1.1 then ((c158 (y.1.2.2.2.1, ((0 : Int), ((65535 : Int), ())))).bind fun r3 =>
     some (r3.1, ()))
    else no)
   else no)
  else no
theorem s153 (c156 : F156) (c158 : F158) (y) : TE [g156 c156, g158 c158] Tryz.f153 i153 o153 y = m153 c156 c158 y := by kernel_rfl
noncomputable def r153 : F153 := m153 r156 r158 
theorem k153 : KO (g153 r153) := fk (s153 r156 r158) ⟨k156, k158, ⟨⟩⟩ (by kernel_rfl)
abbrev i157 : Ts := [.v (.int .i64)]
abbrev o157 : Ts := [.v (.bool)]
abbrev F157 := FT i157 o157
abbrev g157 := mkG 157 i157 o157
noncomputable def m157 (c158 : F158) (y : PTup i157) : Option (PTup o157 × BTup i157) :=
  (c158 (y.1, ((0 : Int), ((20000 : Int), ())))).bind fun r0 =>
  some (r0.1, ())
theorem s157 (c158 : F158) (y) : TE [g158 c158] Tryz.f157 i157 o157 y = m157 c158 y := by kernel_rfl
noncomputable def r157 : F157 := m157 r158 
theorem k157 : KO (g157 r157) := fk (s157 r158) ⟨k158, ⟨⟩⟩ (by kernel_rfl)
abbrev i245 : Ts := [.v (.sl false .i)]
abbrev o245 : Ts := [.v (.bool)]
abbrev F245 := FT i245 o245
abbrev g245 := mkG 245 i245 o245
abbrev lc245_0 : Ts := [.v (.sl false .i), .v (.int .i64)]
abbrev lb245_0 : Ts := []
abbrev lv245_0 : Ts := [.v (.int .i64)]
abbrev lr245_0 : Ts := [.v (.bool)]
abbrev R245_0 := Option (Sum (PTup lv245_0) (PTup lr245_0) × BTup lb245_0)
abbrev B245_0 := PTup lb245_0 → PTup lv245_0 → R245_0
abbrev A245_0 := PTup lc245_0 → B245_0
noncomputable def w245_0 (c158 : F158) (again : B245_0) (x : PTup lc245_0) (y : PTup lb245_0) (z : PTup lv245_0) : R245_0 :=
  bif (ltI z.1 x.2.1) then (bif (leI 0 z.1) then (bif (ltI z.1 (lenI x.1)) then ((c158 ((rdE .i x.1 z.1), ((0 : Int), ((63 : Int), ())))).bind fun r0 =>
     bif (!r0.1.1) then (some ((Sum.inr (false, ())), ()))
     else again () ((wI (z.1 + 1)), ()))
    else none)
   else none)
  else some ((Sum.inl z), ())
noncomputable def e245_0 (l : A245_0) : LoopE := ⟨[5, 6], lc245_0, [], lb245_0, [7], lv245_0, [2], lr245_0, 0, [], l⟩
noncomputable def m245 (c158 : F158) (l0 : A245_0) (y : PTup i245) : Option (PTup o245 × BTup i245) :=
  (l0 (y.1, ((lenI y.1), ())) () ((0 : Int), ())).bind fun r0 =>
  sumElim r0.1 (fun r1 => some ((true, ()), ()))
  (fun r1 => some (r1, ()))
noncomputable def E245 (c158 : F158) (l0 : A245_0) : CEnv := ⟨⟨Tryz.prog, fnsL [g158 c158]⟩, loopsL [(2, e245_0 l0)]⟩
theorem t245_0 (c158 : F158) (l0 : A245_0) (again) (x y z) : loopRound (E245 c158 l0) (loopAt (bodyOf Tryz.f245) 0) (e245_0 l0) Tryz.f245.ntmps again x y z = w245_0 c158 again x y z := by kernel_rfl
noncomputable def n245_0 (c158 : F158) : Nat → A245_0
  | 0, _, _, _ => none
  | n + 1, x, y, z => w245_0 c158 (fun y z => n245_0 c158 n x y z) x y z
theorem s245 (c158 : F158) (l0 : A245_0) (y) : tevF (E245 c158 l0) Tryz.f245 i245 o245 y = m245 c158 l0 y := by kernel_rfl
noncomputable def L245_0 : A245_0 := n245_0 r158 fuel
noncomputable def r245 : F245 := m245 r158 L245_0
theorem k245 : KO (g245 r245) := by
  have hE : ∀ g f, (E245 r158 L245_0).env.fns g = some f → CallOk Tryz.prog g f := fnsL_ok ⟨k158, ⟨⟩⟩
  have h0 : LoopOk Tryz.prog Tryz.f245.ntmps (loopAt (bodyOf Tryz.f245) 0) (e245_0 L245_0) := lp_ok (E := E245 r158 L245_0) rfl hE mixed (AllLoops.of_list (l := []) (by kernel_rfl) trivial) (n245_0 r158 ) (fun _ _ _ => rfl) (fun n x y z => t245_0 r158 L245_0 _ x y z) rfl
  exact fn_ok (E := E245 r158 L245_0) rfl hE mixed (by kernel_rfl) (by kernel_rfl) (AllLoops.of_list (l := [(loopAt (bodyOf Tryz.f245) 0)]) (by kernel_rfl) (.one (by kernel_rfl) h0 trivial)) (s245 r158 L245_0)
abbrev i174 : Ts := [.a q2]
abbrev o174 : Ts := [.v (.bool)]
abbrev F174 := FT i174 o174
abbrev g174 := mkG 174 i174 o174
noncomputable def m174 (c245 : F245) (c156 : F156) (c157 : F157) (c158 : F158) (y : PTup i174) : Option (PTup o174 × BTup i174) :=
  (c157 (y.1.1, ())).bind fun r0 =>
  bif (!r0.1.1) then no
  else (c156 (y.1.2.1, ())).bind fun r1 =>
  bif (!r1.1.1) then no
  else (c156 (y.1.2.2.1, ())).bind fun r2 =>
  bif (!r2.1.1) then no
  else (c158 (y.1.2.2.2.1, ((0 : Int), ((15 : Int), ())))).bind fun r3 =>
  bif (!r3.1.1) then no
  else (c158 (y.1.2.2.2.2.1, ((0 : Int), ((63 : Int), ())))).bind fun r4 =>
  bif (!r4.1.1) then no
  else bif (ltI 48 (Int.tmod y.1.1 64)) then (bif (eqI (lenI y.1.2.2.2.2.2.2.1) 16) then ((c245 (y.1.2.2.2.2.2.2.1, ())).bind fun r5 =>
    bif r5.1.1 then (bif (eqI (lenI y.1.2.2.2.2.2.2.2.1) 0) then ((c245 y.1.2.2.2.2.2.2.2).bind fun r6 =>
      some (r6.1, ()))
     else no)
    else no)
   else no)
  else bif (eqI (lenI y.1.2.2.2.2.2.2.1) 16) then ((c245 (y.1.2.2.2.2.2.2.1, ())).bind fun r5 =>
   bif r5.1.1 then (bif (eqI (lenI y.1.2.2.2.2.2.2.2.1) (Int.tmod y.1.1 64)) then ((c245 y.1.2.2.2.2.2.2.2).bind fun r6 =>
     some (r6.1, ()))
    else no)
   else no)
  else no
theorem s174 (c245 : F245) (c156 : F156) (c157 : F157) (c158 : F158) (y) : TE [g245 c245, g156 c156, g157 c157, g158 c158] Tryz.f174 i174 o174 y = m174 c245 c156 c157 c158 y := by kernel_rfl
noncomputable def r174 : F174 := m174 r245 r156 r157 r158 
theorem k174 : KO (g174 r174) := fk (s174 r245 r156 r157 r158) ⟨k245, k156, k157, k158, ⟨⟩⟩ (by kernel_rfl)
abbrev i290 : Ts := [.a q3]
abbrev o290 : Ts := [.v (.bool)]
abbrev R290 := Option (PTup o290 × BTup i290)
abbrev F290 := PTup i290 → R290
abbrev g290 := mkG 290 i290 o290
abbrev lc290_0 : Ts := [.v (.sl false .t), .v (.int .i64)]
abbrev lb290_0 : Ts := [.p q3]
abbrev lv290_0 : Ts := [.v (.int .i64)]
abbrev lr290_0 : Ts := [.v (.bool)]
abbrev R290_0 := Option (Sum (PTup lv290_0) (PTup lr290_0) × BTup lb290_0)
abbrev B290_0 := PTup lb290_0 → PTup lv290_0 → R290_0
abbrev A290_0 := PTup lc290_0 → B290_0
noncomputable def w290_0 (c156 : F156) (c157 : F157) (c158 : F158) (again : B290_0) (x : PTup lc290_0) (y : PTup lb290_0) (z : PTup lv290_0) : R290_0 :=
  let X0 : R290_0 := (c158 ((rdE .t x.1 z.1).2.1, ((0 : Int), ((7 : Int), ())))).bind fun r1 => bif (!r1.1.1) then (some ((Sum.inr (false, ())), (y.1, ()))) else (c156 ((rdE .t x.1 z.1).2.2, ())).bind fun r2 => bif (!r2.1.1) then (some ((Sum.inr (false, ())), (y.1, ()))) else again (y.1, ()) ((wI (z.1 + 1)), ()); bif (ltI z.1 x.2.1) then (bif (leI 0 z.1) then (bif (ltI z.1 (lenI x.1)) then ((c157 ((rdE .t x.1 z.1).1, ())).bind fun r0 => bif (!r0.1.1) then (some ((Sum.inr (false, ())), (y.1, ()))) else bif (ltI 0 z.1) then (bif (leI 0 (wI (z.1 - 1))) then (bif (ltI (wI (z.1 - 1)) (lenI y.1.2.1)) then (bif (ltI (rdE .t x.1 z.1).1 (rdE .t y.1.2.1 (wI (z.1 - 1))).1) then (some ((Sum.inr (false, ())), (y.1, ()))) else X0) else none) else none) else X0) else none) else none) else some ((Sum.inl z), (y.1, ()))
noncomputable def e290_0 (l : A290_0) : LoopE := ⟨[6, 7], lc290_0, [1], lb290_0, [8], lv290_0, [2], lr290_0, 0, [], l⟩
noncomputable def m290 (c156 : F156) (c157 : F157) (c158 : F158) (l0 : A290_0) (y : PTup i290) : R290 :=
  (l0 (y.1.2.1, ((lenI y.1.2.1), ())) (y.1, ()) ((0 : Int), ())).bind fun r0 =>
  sumElim r0.1 (fun r1 => (c158 (r0.2.1.1, ((1 : Int), ((16 : Int), ())))).bind fun r2 =>
   bif r2.1.1 then (some (((leI (lenI y.1.2.1) r0.2.1.1), ()), ()))
   else no)
  (fun r1 => some (r1, ()))
noncomputable def E290 (c156 : F156) (c157 : F157) (c158 : F158) (l0 : A290_0) : CEnv := ⟨⟨Tryz.prog, fnsL [g156 c156, g157 c157, g158 c158]⟩, loopsL [(2, e290_0 l0)]⟩
theorem t290_0 (c156 : F156) (c157 : F157) (c158 : F158) (l0 : A290_0) (again) (x y z) : loopRound (E290 c156 c157 c158 l0) (loopAt (bodyOf Tryz.f290) 0) (e290_0 l0) Tryz.f290.ntmps again x y z = w290_0 c156 c157 c158 again x y z := by kernel_rfl
noncomputable def n290_0 (c156 : F156) (c157 : F157) (c158 : F158) : Nat → A290_0
  | 0, _, _, _ => none
  | n + 1, x, y, z => w290_0 c156 c157 c158 (fun y z => n290_0 c156 c157 c158 n x y z) x y z
theorem s290 (c156 : F156) (c157 : F157) (c158 : F158) (l0 : A290_0) (y) : tevF (E290 c156 c157 c158 l0) Tryz.f290 i290 o290 y = m290 c156 c157 c158 l0 y := by kernel_rfl
noncomputable def L290_0 : A290_0 := n290_0 r156 r157 r158 fuel
noncomputable def r290 : F290 := m290 r156 r157 r158 L290_0
theorem k290 : KO (g290 r290) := by
  have hE : ∀ g f, (E290 r156 r157 r158 L290_0).env.fns g = some f → CallOk Tryz.prog g f := fnsL_ok ⟨k156, k157, k158, ⟨⟩⟩
  have h0 : LoopOk Tryz.prog Tryz.f290.ntmps (loopAt (bodyOf Tryz.f290) 0) (e290_0 L290_0) := lp_ok (E := E290 r156 r157 r158 L290_0) rfl hE mixed (AllLoops.of_list (l := []) (by kernel_rfl) trivial) (n290_0 r156 r157 r158 ) (fun _ _ _ => rfl) (fun n x y z => t290_0 r156 r157 r158 L290_0 _ x y z) rfl
  exact fn_ok (E := E290 r156 r157 r158 L290_0) rfl hE mixed (by kernel_rfl) (by kernel_rfl) (AllLoops.of_list (l := [(loopAt (bodyOf Tryz.f290) 0)]) (by kernel_rfl) (.one (by kernel_rfl) h0 trivial)) (s290 r156 r157 r158 L290_0)
abbrev i237 : Ts := [.a q3, .v (.int .i64)]
abbrev o237 : Ts := [.v (.bool)]
abbrev F237 := FT i237 o237
abbrev g237 := mkG 237 i237 o237
noncomputable def m237 (c290 : F290) (y : PTup i237) : Option (PTup o237 × BTup i237) :=
  (c290 (y.1, ())).bind fun r0 =>
  bif r0.1.1 then (bif (eqI (lenI y.1.2.1) 0) then (some ((true, ()), ()))
   else bif (ltI 0 (lenI y.1.2.1)) then (some (((leI y.2.1 (rdE .t y.1.2.1 (0 : Int)).1), ()), ()))
   else none)
  else no
theorem s237 (c290 : F290) (y) : TE [g290 c290] Tryz.f237 i237 o237 y = m237 c290 y := by kernel_rfl
noncomputable def r237 : F237 := m237 r290 
theorem k237 : KO (g237 r237) := fk (s237 r290) ⟨k290, ⟨⟩⟩ (by kernel_rfl)
abbrev i246 : Ts := [.v (.int .i64), .v (.int .i64), .v (.int .i64)]
abbrev o246 : Ts := [.v (.int .i64)]
abbrev F246 := FT i246 o246
abbrev g246 := mkG 246 i246 o246
noncomputable def m246 (y : PTup i246) : Option (PTup o246 × BTup i246) :=
  bif (neI y.2.2.1 0) then (some (((wI (Int.tdiv (wI ((wI ((wI (y.1 + y.2.2.1)) - 1)) - y.2.1)) y.2.2.1)), ()), ()))
  else none
theorem s246 (y) : TE [] Tryz.f246 i246 o246 y = m246 y := by kernel_rfl
noncomputable def r246 : F246 := m246 
theorem k246 : KO (g246 r246) := fk (s246 ) trivial (by kernel_rfl)
abbrev i176 : Ts := [.v (.sl false .n), .v (.int .i64)]
abbrev o176 : Ts := [.v (.bool)]
abbrev F176 := FT i176 o176
abbrev g176 := mkG 176 i176 o176
abbrev lc176_0 : Ts := [.v (.sl false .n), .v (.int .i64)]
abbrev lb176_0 : Ts := []
abbrev lv176_0 : Ts := [.v (.int .i64)]
abbrev lr176_0 : Ts := [.v (.bool)]
abbrev R176_0 := Option (Sum (PTup lv176_0) (PTup lr176_0) × BTup lb176_0)
abbrev B176_0 := PTup lb176_0 → PTup lv176_0 → R176_0
abbrev A176_0 := PTup lc176_0 → B176_0
noncomputable def w176_0 (c246 : F246) (again : B176_0) (x : PTup lc176_0) (y : PTup lb176_0) (z : PTup lv176_0) : R176_0 :=
  bif (ltI z.1 x.2.1) then (bif (leI 0 z.1) then (bif (ltI z.1 (lenI x.1)) then (bif (neI (lenI (rdE .n x.1 z.1)) (48 : Int)) then (some ((Sum.inr (false, ())), ()))
     else again () ((wI (z.1 + 1)), ()))
    else none)
   else none)
  else some ((Sum.inl z), ())
noncomputable def e176_0 (l : A176_0) : LoopE := ⟨[7, 8], lc176_0, [], lb176_0, [9], lv176_0, [4], lr176_0, 0, [], l⟩
noncomputable def m176 (c246 : F246) (l0 : A176_0) (y : PTup i176) : Option (PTup o176 × BTup i176) :=
  (l0 (y.1, ((lenI y.1), ())) () ((0 : Int), ())).bind fun r0 =>
  sumElim r0.1 (fun r1 => (c246 (y.2.1, ((48 : Int), ((64 : Int), ())))).bind fun r2 =>
   some (((eqI (lenI y.1) r2.1.1), ()), ()))
  (fun r1 => some (r1, ()))
noncomputable def E176 (c246 : F246) (l0 : A176_0) : CEnv := ⟨⟨Tryz.prog, fnsL [g246 c246]⟩, loopsL [(2, e176_0 l0)]⟩
theorem t176_0 (c246 : F246) (l0 : A176_0) (again) (x y z) : loopRound (E176 c246 l0) (loopAt (bodyOf Tryz.f176) 0) (e176_0 l0) Tryz.f176.ntmps again x y z = w176_0 c246 again x y z := by kernel_rfl
noncomputable def n176_0 (c246 : F246) : Nat → A176_0
  | 0, _, _, _ => none
  | n + 1, x, y, z => w176_0 c246 (fun y z => n176_0 c246 n x y z) x y z
theorem s176 (c246 : F246) (l0 : A176_0) (y) : tevF (E176 c246 l0) Tryz.f176 i176 o176 y = m176 c246 l0 y := by kernel_rfl
noncomputable def L176_0 : A176_0 := n176_0 r246 fuel
noncomputable def r176 : F176 := m176 r246 L176_0
theorem k176 : KO (g176 r176) := by
  have hE : ∀ g f, (E176 r246 L176_0).env.fns g = some f → CallOk Tryz.prog g f := fnsL_ok ⟨k246, ⟨⟩⟩
  have h0 : LoopOk Tryz.prog Tryz.f176.ntmps (loopAt (bodyOf Tryz.f176) 0) (e176_0 L176_0) := lp_ok (E := E176 r246 L176_0) rfl hE mixed (AllLoops.of_list (l := []) (by kernel_rfl) trivial) (n176_0 r246 ) (fun _ _ _ => rfl) (fun n x y z => t176_0 r246 L176_0 _ x y z) rfl
  exact fn_ok (E := E176 r246 L176_0) rfl hE mixed (by kernel_rfl) (by kernel_rfl) (AllLoops.of_list (l := [(loopAt (bodyOf Tryz.f176) 0)]) (by kernel_rfl) (.one (by kernel_rfl) h0 trivial)) (s176 r246 L176_0)
abbrev i154 : Ts := [.a q4]
abbrev o154 : Ts := [.v (.bool)]
abbrev F154 := FT i154 o154
abbrev g154 := mkG 154 i154 o154
noncomputable def m154 (c174 : F174) (c176 : F176) (c237 : F237) (y : PTup i154) : Option (PTup o154 × BTup i154) :=
  (c174 ((y.1.1, (y.1.2.1, (y.1.2.2.1, (y.1.2.2.2.1, (y.1.2.2.2.2.1, (y.1.2.2.2.2.2.1, (y.1.2.2.2.2.2.2.1, (y.1.2.2.2.2.2.2.2.1, ())))))))), ())).bind fun r0 =>
  bif r0.1.1 then ((c237 ((y.1.2.2.2.2.2.2.2.2.1, (y.1.2.2.2.2.2.2.2.2.2.1, ())), (y.1.1, ()))).bind fun r1 =>
   bif r1.1.1 then ((c176 (y.1.2.2.2.2.2.2.2.2.2.2.1, (y.1.1, ()))).bind fun r2 =>
    some (r2.1, ()))
   else no)
  else no
theorem s154 (c174 : F174) (c176 : F176) (c237 : F237) (y) : TE [g174 c174, g176 c176, g237 c237] Tryz.f154 i154 o154 y = m154 c174 c176 c237 y := by kernel_rfl
noncomputable def r154 : F154 := m154 r174 r176 r237 
theorem k154 : KO (g154 r154) := fk (s154 r174 r176 r237) ⟨k174, k176, k237, ⟨⟩⟩ (by kernel_rfl)
abbrev i175 : Ts := [.a q14]
abbrev o175 : Ts := [.v (.bool)]
abbrev F175 := FT i175 o175
abbrev g175 := mkG 175 i175 o175
noncomputable def m175 (c156 : F156) (c157 : F157) (c158 : F158) (y : PTup i175) : Option (PTup o175 × BTup i175) :=
  (c157 (y.1.1, ())).bind fun r0 =>
  bif r0.1.1 then ((c156 (y.1.2.1, ())).bind fun r1 =>
   bif r1.1.1 then ((c156 (y.1.2.2.1, ())).bind fun r2 =>
    bif r2.1.1 then ((c158 (y.1.2.2.2.1, ((0 : Int), ((1 : Int), ())))).bind fun r3 =>
     bif r3.1.1 then ((c158 (y.1.2.2.2.2.1, ((0 : Int), ((31 : Int), ())))).bind fun r4 =>
      some (r4.1, ()))
     else no)
    else no)
   else no)
  else no
theorem s175 (c156 : F156) (c157 : F157) (c158 : F158) (y) : TE [g156 c156, g157 c157, g158 c158] Tryz.f175 i175 o175 y = m175 c156 c157 c158 y := by kernel_rfl
noncomputable def r175 : F175 := m175 r156 r157 r158 
theorem k175 : KO (g175 r175) := fk (s175 r156 r157 r158) ⟨k156, k157, k158, ⟨⟩⟩ (by kernel_rfl)
abbrev i177 : Ts := [.v (.sl false .i), .v (.int .i64)]
abbrev o177 : Ts := [.v (.bool)]
abbrev F177 := FT i177 o177
abbrev g177 := mkG 177 i177 o177
noncomputable def m177 (c246 : F246) (y : PTup i177) : Option (PTup o177 × BTup i177) :=
  (c246 (y.2.1, ((15 : Int), ((16 : Int), ())))).bind fun r0 =>
  some (((eqI (lenI y.1) r0.1.1), ()), ())
theorem s177 (c246 : F246) (y) : TE [g246 c246] Tryz.f177 i177 o177 y = m177 c246 y := by kernel_rfl
noncomputable def r177 : F177 := m177 r246 
theorem k177 : KO (g177 r177) := fk (s177 r246) ⟨k246, ⟨⟩⟩ (by kernel_rfl)
abbrev i155 : Ts := [.a q5]
abbrev o155 : Ts := [.v (.bool)]
abbrev F155 := FT i155 o155
abbrev g155 := mkG 155 i155 o155
noncomputable def m155 (c175 : F175) (c237 : F237) (c177 : F177) (y : PTup i155) : Option (PTup o155 × BTup i155) :=
  (c175 ((y.1.1, (y.1.2.1, (y.1.2.2.1, (y.1.2.2.2.1, (y.1.2.2.2.2.1, (y.1.2.2.2.2.2.1, (y.1.2.2.2.2.2.2.1, ()))))))), ())).bind fun r0 =>
  bif r0.1.1 then ((c237 ((y.1.2.2.2.2.2.2.2.1, (y.1.2.2.2.2.2.2.2.2.1, ())), (y.1.1, ()))).bind fun r1 =>
   bif r1.1.1 then ((c177 (y.1.2.2.2.2.2.2.2.2.2.1, (y.1.1, ()))).bind fun r2 =>
    some (r2.1, ()))
   else no)
  else no
theorem s155 (c175 : F175) (c237 : F237) (c177 : F177) (y) : TE [g175 c175, g237 c237, g177 c177] Tryz.f155 i155 o155 y = m155 c175 c237 c177 y := by kernel_rfl
noncomputable def r155 : F155 := m155 r175 r237 r177 
theorem k155 : KO (g155 r155) := fk (s155 r175 r237 r177) ⟨k175, k237, k177, ⟨⟩⟩ (by kernel_rfl)
abbrev i159 : Ts := [.a q3, .v (.int .i64)]
abbrev o159 : Ts := [.v (.bool)]
abbrev F159 := FT i159 o159
abbrev g159 := mkG 159 i159 o159
noncomputable def m159 (y : PTup i159) : Option (PTup o159 × BTup i159) :=
  bif (eqI (lenI y.1.2.1) 0) then (some ((true, ()), ()))
  else bif (leI 0 (wI ((lenI y.1.2.1) - 1))) then (bif (ltI (wI ((lenI y.1.2.1) - 1)) (lenI y.1.2.1)) then (some (((leI (rdE .t y.1.2.1 (wI ((lenI y.1.2.1) - 1))).1 y.2.1), ()), ()))
   else none)
  else none
theorem s159 (y) : TE [] Tryz.f159 i159 o159 y = m159 y := by kernel_rfl
noncomputable def r159 : F159 := m159 
theorem k159 : KO (g159 r159) := fk (s159 ) trivial (by kernel_rfl)
abbrev i69 : Ts := [.a q6]
abbrev o69 : Ts := [.v (.bool)]
abbrev R69 := Option (PTup o69 × BTup i69)
abbrev F69 := PTup i69 → R69
abbrev g69 := mkG 69 i69 o69
noncomputable def m69 (c153 : F153) (c151 : F151) (c152 : F152) (c154 : F154) (c155 : F155) (c156 : F156) (c157 : F157) (c159 : F159) (c158 : F158) (y : PTup i69) : R69 :=
  let a0 := y.1; let a1 := a0.2; let a2 := a1.2; let a3 := a2.2; let a4 := a3.2; let a5 := a4.2; let a6 := a5.2; let a7 := a6.2; let a8 := a7.2; let a9 := a8.2; let a10 := a9.2; let a11 := a10.2; let a12 := a11.2; let a13 := a12.2; let a14 := a13.2; let a15 := a14.1; let a16 := a14.2; let a17 := a16.2; let a18 := a17.2; let a19 := a18.2; let a20 := a19.2; let a21 := a20.2; let a22 := a21.2; let a23 := a22.2; let a24 := a23.2; let a25 := a24.2; let a26 := a25.2; let a27 := a26.2; let a28 := a27.2; let a29 := a28.2; let a30 := a29.2.2; let a31 := a30.2.2.2.2.2.2.2.2.2; (c151 ((a0.1, ()), ((a2.1, (a3.1, ())), ()))).bind fun r0 => bif r0.1.1 then ((c152 (a1.1, ())).bind fun r1 => bif r1.1.1 then ((c153 ((a4.1, (a5.1, (a6.1, (a7.1, (a8.1, (a9.1, (a10.1, (a11.1, ())))))))), ())).bind fun r2 => bif r2.1.1 then ((c154 ((a22.1, (a23.1, (a24.1, (a25.1, (a26.1, (a27.1, (a28.1, (a29.1, (a29.2.1, (a30.1, (a30.2.1, ()))))))))))), ())).bind fun r3 => bif r3.1.1 then ((c155 (a30.2.2, ())).bind fun r4 => let X0 : R69 := bif r4.1.1 then no else no; (c156 (a13.1, ())).bind fun r5 => bif r5.1.1 then ((c156 (a17.1, ())).bind fun r6 => bif r6.1.1 then ((c157 (a15, ())).bind fun r7 => bif r7.1.1 then ((c158 (a19.1, ((0 : Int), (a15, ())))).bind fun r8 => bif r8.1.1 then ((c158 (a20.1, ((0 : Int), (a15, ())))).bind fun r9 => bif r4.1.1 then (bif r9.1.1 then (bif (leI a22.1 a15) then (bif (leI a30.2.2.1 a15) then ((c159 ((a29.2.1, (a30.1, ())), (a15, ()))).bind fun r10 => bif r10.1.1 then ((c159 ((a31.1, (a31.2.1, ())), (a15, ()))).bind fun r11 => some (r11.1, ())) else no) else no) else no) else no) else no) else X0) else X0) else X0) else X0) else (c156 (a13.1, ())).bind fun r4 => bif r4.1.1 then ((c156 (a17.1, ())).bind fun r5 => bif r5.1.1 then ((c157 (a15, ())).bind fun r6 => bif r6.1.1 then ((c158 (a19.1, ((0 : Int), (a15, ())))).bind fun r7 => bif r7.1.1 then ((c158 (a20.1, ((0 : Int), (a15, ())))).bind fun r8 => no) else no) else no) else no) else no) else (c156 (a13.1, ())).bind fun r3 => bif r3.1.1 then ((c156 (a17.1, ())).bind fun r4 => bif r4.1.1 then ((c157 (a15, ())).bind fun r5 => bif r5.1.1 then ((c158 (a19.1, ((0 : Int), (a15, ())))).bind fun r6 => bif r6.1.1 then ((c158 (a20.1, ((0 : Int), (a15, ())))).bind fun r7 => no) else no) else no) else no) else no) else (c156 (a13.1, ())).bind fun r2 => bif r2.1.1 then ((c156 (a17.1, ())).bind fun r3 => bif r3.1.1 then ((c157 (a15, ())).bind fun r4 => bif r4.1.1 then ((c158 (a19.1, ((0 : Int), (a15, ())))).bind fun r5 => bif r5.1.1 then ((c158 (a20.1, ((0 : Int), (a15, ())))).bind fun r6 => no) else no) else no) else no) else no) else (c156 (a13.1, ())).bind fun r1 => bif r1.1.1 then ((c156 (a17.1, ())).bind fun r2 => bif r2.1.1 then ((c157 (a15, ())).bind fun r3 => bif r3.1.1 then ((c158 (a19.1, ((0 : Int), (a15, ())))).bind fun r4 => bif r4.1.1 then ((c158 (a20.1, ((0 : Int), (a15, ())))).bind fun r5 => no) else no) else no) else no) else no
theorem s69 (c153 : F153) (c151 : F151) (c152 : F152) (c154 : F154) (c155 : F155) (c156 : F156) (c157 : F157) (c159 : F159) (c158 : F158) (y) : TE [g153 c153, g151 c151, g152 c152, g154 c154, g155 c155, g156 c156, g157 c157, g159 c159, g158 c158] Tryz.f69 i69 o69 y = m69 c153 c151 c152 c154 c155 c156 c157 c159 c158 y := by kernel_rfl
noncomputable def r69 : F69 := m69 r153 r151 r152 r154 r155 r156 r157 r159 r158 
theorem k69 : KO (g69 r69) := fk (s69 r153 r151 r152 r154 r155 r156 r157 r159 r158) ⟨k153, k151, k152, k154, k155, k156, k157, k159, k158, ⟨⟩⟩ (by kernel_rfl)
abbrev i284 : Ts := [.p q12, .v (.int .i64)]
abbrev o284 : Ts := [.a q11, .v (.bool)]
abbrev F284 := FT i284 o284
abbrev g284 := mkG 284 i284 o284
noncomputable def m284 (y : PTup i284) : Option (PTup o284 × BTup i284) :=
  bif (eqI (lenI y.1.2.1) 0) then (some ((((0 : Int), ((0 : Int), ((0 : Int), ()))), (false, ())), (y.1, ())))
  else bif (ltI 0 (lenI y.1.2.1)) then (bif (neI (rdE .t y.1.2.1 (0 : Int)).1 y.2.1) then (some ((((0 : Int), ((0 : Int), ((0 : Int), ()))), (false, ())), (y.1, ())))
   else bif (ltI 0 (lenI y.1.2.1)) then (bif (leI 1 (lenI y.1.2.1)) then (some ((((rdE .t y.1.2.1 (0 : Int)).1, ((rdE .t y.1.2.1 (0 : Int)).2.1, ((rdE .t y.1.2.1 (0 : Int)).2.2, ()))), (true, ())), ((y.1.1, ((List.drop (Int.toNat (1 : Int)) y.1.2.1), ())), ())))
    else none)
   else none)
  else none
theorem s284 (y) : TE [] Tryz.f284 i284 o284 y = m284 y := by kernel_rfl
noncomputable def r284 : F284 := m284 
theorem k284 : KO (g284 r284) := fk (s284 ) trivial (by kernel_rfl)
abbrev i294 : Ts := [.v (.int .i64)]
abbrev o294 : Ts := [.v (.int .i64)]
abbrev F294 := FT i294 o294
abbrev g294 := mkG 294 i294 o294
noncomputable def m294 (y : PTup i294) : Option (PTup o294 × BTup i294) :=
  some (((bAnd Go.IntKind.i64 y.1 (255 : Int)), ()), ())
theorem s294 (y) : TE [] Tryz.f294 i294 o294 y = m294 y := by kernel_rfl
noncomputable def r294 : F294 := m294 
theorem k294 : KO (g294 r294) := fk (s294 ) trivial (by kernel_rfl)
abbrev i316 : Ts := [.p q2]
abbrev o316 : Ts := []
abbrev F316 := FT i316 o316
abbrev g316 := mkG 316 i316 o316
noncomputable def m316 (y : PTup i316) : Option (PTup o316 × BTup i316) :=
  some ((), ((y.1.1, (y.1.2.1, (y.1.2.2.1, ((Int.tmod (wI (y.1.2.2.2.1 + 1)) (16 : Int)), y.1.2.2.2.2)))), ()))
theorem s316 (y) : TE [] Tryz.f316 i316 o316 y = m316 y := by kernel_rfl
noncomputable def r316 : F316 := m316 
theorem k316 : KO (g316 r316) := fk (s316 ) trivial (by kernel_rfl)
abbrev i285 : Ts := [.p [.int .i64, .int .i64, .int .i64, .int .i64, .int .i64, .bool, .sl true .i, .sl false .i], .v (.int .i64), .v (.int .i64)]
abbrev o285 : Ts := []
abbrev F285 := FT i285 o285
abbrev g285 := mkG 285 i285 o285
noncomputable def m285 (c316 : F316) (c294 : F294) (y : PTup i285) : Option (PTup o285 × BTup i285) :=
  (c294 y.2.2).bind fun r0 =>
  bif (eqI y.2.1 0) then (some ((), ((y.1.1, (r0.1.1, y.1.2.2)), ())))
  else bif (eqI y.2.1 1) then (some ((), ((y.1.1, (y.1.2.1, (r0.1.1, y.1.2.2.2))), ())))
  else bif (eqI y.2.1 3) then (some ((), ((y.1.1, (y.1.2.1, (y.1.2.2.1, ((Int.tmod r0.1.1 16), y.1.2.2.2.2)))), ())))
  else bif (eqI y.2.1 4) then (bif (leI 0 y.1.2.2.2.1) then (bif (ltI y.1.2.2.2.1 (lenI y.1.2.2.2.2.2.2.1)) then ((c316 ((y.1.1, (y.1.2.1, (y.1.2.2.1, (y.1.2.2.2.1, (y.1.2.2.2.2.1, (y.1.2.2.2.2.2.1, ((List.set y.1.2.2.2.2.2.2.1 (Int.toNat y.1.2.2.2.1) (Int.tmod r0.1.1 64)), y.1.2.2.2.2.2.2.2))))))), ())).bind fun r1 =>
     some ((), ((r1.2.1.1, (r1.2.1.2.1, (r1.2.1.2.2.1, (r1.2.1.2.2.2.1, (r1.2.1.2.2.2.2.1, (r1.2.1.2.2.2.2.2.1, ((List.set y.1.2.2.2.2.2.2.1 (Int.toNat y.1.2.2.2.1) (Int.tmod r0.1.1 64)), y.1.2.2.2.2.2.2.2))))))), ())))
    else none)
   else none)
  else bif (eqI y.2.1 5) then (some ((), ((y.1.1, (y.1.2.1, (y.1.2.2.1, (y.1.2.2.2.1, ((Int.tmod r0.1.1 64), y.1.2.2.2.2.2))))), ())))
  else some ((), (y.1, ()))
theorem s285 (c316 : F316) (c294 : F294) (y) : TE [g316 c316, g294 c294] Tryz.f285 i285 o285 y = m285 c316 c294 y := by kernel_rfl
noncomputable def r285 : F285 := m285 r316 r294 
theorem k285 : KO (g285 r285) := fk (s285 r316 r294) ⟨k316, k294, ⟨⟩⟩ (by kernel_rfl)
abbrev i308 : Ts := [.r q2, .v (.int .i64)]
abbrev o308 : Ts := [.v (.int .i64)]
abbrev F308 := FT i308 o308
abbrev g308 := mkG 308 i308 o308
noncomputable def m308 (y : PTup i308) : Option (PTup o308 × BTup i308) :=
  bif (leI 0 (Int.tmod (wI ((wI ((Int.tmod y.2.1 8) + y.1.2.2.1)) + (wI (Int.tdiv y.2.1 8)))) (16 : Int))) then (bif (ltI (Int.tmod (wI ((wI ((Int.tmod y.2.1 8) + y.1.2.2.1)) + (wI (Int.tdiv y.2.1 8)))) (16 : Int)) (lenI y.1.2.2.2.2.2.2.1)) then (some (((bXor Go.IntKind.i64 (rdE .i y.1.2.2.2.2.2.2.1 (Int.tmod (wI ((wI ((Int.tmod y.2.1 8) + y.1.2.2.1)) + (wI (Int.tdiv y.2.1 8)))) (16 : Int))) y.1.2.2.2.2.1), ()), ()))
   else none)
  else none
theorem s308 (y) : TE [] Tryz.f308 i308 o308 y = m308 y := by kernel_rfl
noncomputable def r308 : F308 := m308 
theorem k308 : KO (g308 r308) := fk (s308 ) trivial (by kernel_rfl)
abbrev i255 : Ts := [.p [.int .i64, .int .i64, .int .i64, .int .i64, .int .i64, .bool, .sl false .i, .sl true .i]]
abbrev o255 : Ts := [.v (.bool), .v (.sl true .i), .v (.bool)]
abbrev F255 := FT i255 o255
abbrev g255 := mkG 255 i255 o255
noncomputable def m255 (c308 : F308) (y : PTup i255) : Option (PTup o255 × BTup i255) :=
  bif (ltI (Int.tmod y.1.1 64) (48 : Int)) then ((c308 (((wI (y.1.1 + 1)), y.1.2), ((Int.tmod y.1.1 64), ()))).bind fun r0 =>
   bif (leN ((List.length y.1.2.2.2.2.2.2.2.1) + (List.length (r0.1.1 :: []))) (E.most .i)) then (some ((false, ([], (false, ()))), (((wI (y.1.1 + 1)), (y.1.2.1, (y.1.2.2.1, (y.1.2.2.2.1, (y.1.2.2.2.2.1, (y.1.2.2.2.2.2.1, (y.1.2.2.2.2.2.2.1, ((y.1.2.2.2.2.2.2.2.1 ++ (r0.1.1 :: [])), ())))))))), ())))
   else none)
  else bif (eqI (Int.tmod y.1.1 64) (48 : Int)) then (some ((true, (y.1.2.2.2.2.2.2.2.1, ((ltI 127 y.1.2.1), ()))), (((wI (y.1.1 + 1)), (y.1.2.1, (y.1.2.2.1, (y.1.2.2.2.1, (y.1.2.2.2.2.1, (true, (y.1.2.2.2.2.2.2.1, ([], ())))))))), ())))
  else bif (eqI (Int.tmod y.1.1 64) (63 : Int)) then (some ((false, ([], (false, ()))), (((wI (y.1.1 + 1)), (y.1.2.1, (y.1.2.2.1, (y.1.2.2.2.1, (y.1.2.2.2.2.1, (false, y.1.2.2.2.2.2.2)))))), ())))
  else some ((false, ([], (false, ()))), (((wI (y.1.1 + 1)), y.1.2), ()))
theorem s255 (c308 : F308) (y) : TE [g308 c308] Tryz.f255 i255 o255 y = m255 c308 y := by kernel_rfl
noncomputable def r255 : F255 := m255 r308 
theorem k255 : KO (g255 r255) := fk (s255 r308) ⟨k308, ⟨⟩⟩ (by kernel_rfl)
abbrev i217 : Ts := [.p q13, .v (.int .i64)]
abbrev o217 : Ts := [.v (.bool)]
abbrev F217 := FT i217 o217
abbrev g217 := mkG 217 i217 o217
noncomputable def m217 (c255 : F255) (c285 : F285) (c284 : F284) (y : PTup i217) : Option (PTup o217 × BTup i217) :=
  let a0 := y.1; let a1 := a0.2; let a2 := a1.2; let a3 := a2.2; let a4 := a3.2; let a5 := a4.2; let a6 := a5.2; let a7 := a6.2; let a8 := a7.2.2; (c284 ((a7.2.1, (a8.1, ())), (a0.1, ()))).bind fun r0 =>
  bif r0.1.2.1 then ((c285 ((a0.1, (a1.1, (a2.1, (a3.1, (a4.1, (a5.1, (a6.1, (a7.1, ())))))))), r0.1.1.2)).bind fun r1 =>
   some ((true, ()), ((r1.2.1.1, (r1.2.1.2.1, (r1.2.1.2.2.1, (r1.2.1.2.2.2.1, (r1.2.1.2.2.2.2.1, (r1.2.1.2.2.2.2.2.1, (r1.2.1.2.2.2.2.2.2.1, (a7.1, (r0.2.1.1, (r0.2.1.2.1, a8.2)))))))))), ())))
  else bif (leI (mnI y.2.1 (20000 : Int)) a0.1) then (some ((false, ()), ((a0.1, (a1.1, (a2.1, (a3.1, (a4.1, (a5.1, (a6.1, (a7.1, (r0.2.1.1, (r0.2.1.2.1, a8.2)))))))))), ())))
  else (c255 ((a0.1, (a1.1, (a2.1, (a3.1, (a4.1, (a5.1, (a6.1, (a7.1, ())))))))), ())).bind fun r1 =>
  bif r1.1.1 then (bif (leN ((List.length a8.2.1) + (List.length (r1.1.2.1 :: []))) (E.most .n)) then (some ((true, ()), ((r1.2.1.1, (r1.2.1.2.1, (r1.2.1.2.2.1, (r1.2.1.2.2.2.1, (r1.2.1.2.2.2.2.1, (r1.2.1.2.2.2.2.2.1, (a6.1, (r1.2.1.2.2.2.2.2.2.2.1, (r0.2.1.1, (r0.2.1.2.1, ((a8.2.1 ++ (r1.1.2.1 :: [])), ()))))))))))), ())))
   else none)
  else some ((true, ()), ((r1.2.1.1, (r1.2.1.2.1, (r1.2.1.2.2.1, (r1.2.1.2.2.2.1, (r1.2.1.2.2.2.2.1, (r1.2.1.2.2.2.2.2.1, (a6.1, (r1.2.1.2.2.2.2.2.2.2.1, (r0.2.1.1, (r0.2.1.2.1, a8.2)))))))))), ()))
theorem s217 (c255 : F255) (c285 : F285) (c284 : F284) (y) : TE [g255 c255, g285 c285, g284 c284] Tryz.f217 i217 o217 y = m217 c255 c285 c284 y := by kernel_rfl
noncomputable def r217 : F217 := m217 r255 r285 r284 
theorem k217 : KO (g217 r217) := fk (s217 r255 r285 r284) ⟨k255, k285, k284, ⟨⟩⟩ (by kernel_rfl)
abbrev i160 : Ts := [.p q13, .v (.int .i64)]
abbrev o160 : Ts := []
abbrev F160 := FT i160 o160
abbrev g160 := mkG 160 i160 o160
abbrev lc160_0 : Ts := [.v (.int .i64)]
abbrev lb160_0 : Ts := [.p q13]
abbrev lv160_0 : Ts := []
abbrev lr160_0 : Ts := []
abbrev R160_0 := Option (Sum (PTup lv160_0) (PTup lr160_0) × BTup lb160_0)
abbrev B160_0 := PTup lb160_0 → PTup lv160_0 → R160_0
abbrev A160_0 := PTup lc160_0 → B160_0
noncomputable def w160_0 (c217 : F217) (again : B160_0) (x : PTup lc160_0) (y : PTup lb160_0) (z : PTup lv160_0) : R160_0 :=
  (c217 (y.1, x)).bind fun r0 =>
  bif r0.1.1 then (again (r0.2.1, ()) ())
  else some ((Sum.inl ()), (r0.2.1, ()))
noncomputable def e160_0 (l : A160_0) : LoopE := ⟨[1], lc160_0, [0], lb160_0, [], lv160_0, [], lr160_0, 0, [], l⟩
noncomputable def m160 (c217 : F217) (l0 : A160_0) (y : PTup i160) : Option (PTup o160 × BTup i160) :=
  (l0 y.2 (y.1, ()) ()).bind fun r0 =>
  sumElim r0.1 (fun r1 => some ((), (r0.2.1, ())))
  (fun r1 => some ((), (r0.2.1, ())))
noncomputable def E160 (c217 : F217) (l0 : A160_0) : CEnv := ⟨⟨Tryz.prog, fnsL [g217 c217]⟩, loopsL [(0, e160_0 l0)]⟩
theorem t160_0 (c217 : F217) (l0 : A160_0) (again) (x y z) : loopRound (E160 c217 l0) (loopAt (bodyOf Tryz.f160) 0) (e160_0 l0) Tryz.f160.ntmps again x y z = w160_0 c217 again x y z := by kernel_rfl
noncomputable def n160_0 (c217 : F217) : Nat → A160_0
  | 0, _, _, _ => none
  | n + 1, x, y, z => w160_0 c217 (fun y z => n160_0 c217 n x y z) x y z
theorem s160 (c217 : F217) (l0 : A160_0) (y) : tevF (E160 c217 l0) Tryz.f160 i160 o160 y = m160 c217 l0 y := by kernel_rfl
noncomputable def L160_0 : A160_0 := n160_0 r217 fuel
noncomputable def r160 : F160 := m160 r217 L160_0
theorem k160 : KO (g160 r160) := by
  have hE : ∀ g f, (E160 r217 L160_0).env.fns g = some f → CallOk Tryz.prog g f := fnsL_ok ⟨k217, ⟨⟩⟩
  have h0 : LoopOk Tryz.prog Tryz.f160.ntmps (loopAt (bodyOf Tryz.f160) 0) (e160_0 L160_0) := lp_ok (E := E160 r217 L160_0) rfl hE mixed (AllLoops.of_list (l := []) (by kernel_rfl) trivial) (n160_0 r217 ) (fun _ _ _ => rfl) (fun n x y z => t160_0 r217 L160_0 _ x y z) rfl
  exact fn_ok (E := E160 r217 L160_0) rfl hE mixed (by kernel_rfl) (by kernel_rfl) (AllLoops.of_list (l := [(loopAt (bodyOf Tryz.f160) 0)]) (by kernel_rfl) (.one (by kernel_rfl) h0 trivial)) (s160 r217 L160_0)
abbrev i286 : Ts := [.a q14, .v (.int .i64), .v (.int .i64)]
abbrev o286 : Ts := [.a q14]
abbrev F286 := FT i286 o286
abbrev g286 := mkG 286 i286 o286
noncomputable def m286 (c175 : F175) (c294 : F294) (y : PTup i286) : Option (PTup o286 × BTup i286) :=
  (c175 (y.1, ())).bind fun r0 =>
  bif (!r0.1.1) then (some ((y.1, ()), ()))
  else (c294 y.2.2).bind fun r1 =>
  bif (eqI y.2.1 0) then (some (((y.1.1, (r1.1.1, y.1.2.2)), ()), ()))
  else bif (eqI y.2.1 1) then (some (((y.1.1, (y.1.2.1, (y.1.2.2.1, (y.1.2.2.2.1, ((Int.tmod r1.1.1 32), y.1.2.2.2.2.2))))), ()), ()))
  else bif (eqI y.2.1 2) then (bif y.1.2.2.2.2.2.2.1 then (some (((y.1.1, (y.1.2.1, (y.1.2.2.1, (y.1.2.2.2.1, (y.1.2.2.2.2.1, ((eqI (Int.tmod r1.1.1 2) (1 : Int)), ((eqI (Int.tmod r1.1.1 2) (1 : Int)), ()))))))), ()), ()))
   else some (((y.1.1, (y.1.2.1, (y.1.2.2.1, (y.1.2.2.2.1, (y.1.2.2.2.2.1, ((eqI (Int.tmod r1.1.1 2) (1 : Int)), (false, ()))))))), ()), ()))
  else bif (eqI y.2.1 3) then (some (((y.1.1, (y.1.2.1, (y.1.2.2.1, (y.1.2.2.2.1, (y.1.2.2.2.2.1, (y.1.2.2.2.2.2.1, (false, ()))))))), ()), ()))
  else some ((y.1, ()), ())
theorem s286 (c175 : F175) (c294 : F294) (y) : TE [g175 c175, g294 c294] Tryz.f286 i286 o286 y = m286 c175 c294 y := by kernel_rfl
noncomputable def r286 : F286 := m286 r175 r294 
theorem k286 : KO (g286 r286) := fk (s286 r175 r294) ⟨k175, k294, ⟨⟩⟩ (by kernel_rfl)
abbrev i256 : Ts := [.p q14]
abbrev o256 : Ts := [.v (.int .i64), .v (.bool)]
abbrev R256 := Option (PTup o256 × BTup i256)
abbrev F256 := PTup i256 → R256
abbrev g256 := mkG 256 i256 o256
noncomputable def m256 (y : PTup i256) : R256 :=
  let a0 := y.1; let a1 := a0.1; let a2 := a0.2; let a3 := a2.1; let a4 := a2.2; let a5 := a4.1; let a6 := a4.2; let a7 := a6.1; let a8 := a6.2; let a9 := a8.1; let a10 := a8.2; let a11 := a10.1; let X0 : R256 := bif (! (eqI (Int.tmod a1 16) (15 : Int))) then (some (((0 : Int), ((eqI (Int.tmod a1 16) (15 : Int)), ())), (((wI (a1 + 1)), (a3, (a3, ((wI ((1 : Int) - a7)), a8)))), ()))) else bif (eqI a9 0) then (some (((0 : Int), ((eqI (Int.tmod a1 16) (15 : Int)), ())), (((wI (a1 + 1)), (a3, (a3, ((wI ((1 : Int) - a7)), a8)))), ()))) else some (((wI ((8 : Int) * (wI ((1 : Int) - a7)))), (true, ())), (((wI (a1 + 1)), (a3, (a3, ((wI ((1 : Int) - a7)), a8)))), ())); let X1 : R256 := bif (! (eqI (Int.tmod a1 16) (15 : Int))) then (some (((0 : Int), ((eqI (Int.tmod a1 16) (15 : Int)), ())), (((wI (a1 + 1)), (a3, ((wI (a5 - 1)), a6))), ()))) else bif (eqI a9 0) then (some (((0 : Int), ((eqI (Int.tmod a1 16) (15 : Int)), ())), (((wI (a1 + 1)), (a3, ((wI (a5 - 1)), a6))), ()))) else some (((wI ((8 : Int) * a7)), (true, ())), (((wI (a1 + 1)), (a3, ((wI (a5 - 1)), a6))), ())); let X2 : R256 := bif (! (eqI (Int.tmod a1 16) (15 : Int))) then (some (((0 : Int), ((eqI (Int.tmod a1 16) (15 : Int)), ())), (((wI (a1 + 1)), (a3, (a3, a6))), ()))) else bif (eqI a9 0) then (some (((0 : Int), ((eqI (Int.tmod a1 16) (15 : Int)), ())), (((wI (a1 + 1)), (a3, (a3, a6))), ()))) else some (((wI ((8 : Int) * a7)), (true, ())), (((wI (a1 + 1)), (a3, (a3, a6))), ())); let X3 : R256 := some (((0 : Int), ((eqI (Int.tmod a1 16) (15 : Int)), ())), (((wI (a1 + 1)), (a3, ((wI (a5 - 1)), (a7, ((wI (a9 - 1)), (a11, (a11, ()))))))), ())); let X4 : R256 := some (((0 : Int), ((eqI (Int.tmod a1 16) (15 : Int)), ())), (((wI (a1 + 1)), (a3, (a3, ((wI ((1 : Int) - a7)), ((wI (a9 - 1)), (a11, (a11, ()))))))), ())); let X5 : R256 := some (((0 : Int), ((eqI (Int.tmod a1 16) (15 : Int)), ())), (((wI (a1 + 1)), (a3, ((wI (a5 - 1)), (a7, ((wI (a9 - 1)), (a11, (false, ()))))))), ())); let X6 : R256 := some (((0 : Int), ((eqI (Int.tmod a1 16) (15 : Int)), ())), (((wI (a1 + 1)), (a3, ((wI (a5 - 1)), (a7, ((wI (a9 - 1)), (a11, (true, ()))))))), ())); let X7 : R256 := some (((0 : Int), ((eqI (Int.tmod a1 16) (15 : Int)), ())), (((wI (a1 + 1)), (a3, (a3, ((wI ((1 : Int) - a7)), ((wI (a9 - 1)), (a11, (false, ()))))))), ())); let X8 : R256 := some (((0 : Int), ((eqI (Int.tmod a1 16) (15 : Int)), ())), (((wI (a1 + 1)), (a3, (a3, ((wI ((1 : Int) - a7)), ((wI (a9 - 1)), (a11, (true, ()))))))), ())); let X9 : R256 := some (((0 : Int), ((eqI (Int.tmod a1 16) (15 : Int)), ())), (((wI (a1 + 1)), (a3, (a3, (a7, ((wI (a9 - 1)), (a11, (a11, ()))))))), ())); let X10 : R256 := some (((0 : Int), ((eqI (Int.tmod a1 16) (15 : Int)), ())), (((wI (a1 + 1)), (a3, (a3, (a7, ((wI (a9 - 1)), (a11, (false, ()))))))), ())); let X11 : R256 := some (((0 : Int), ((eqI (Int.tmod a1 16) (15 : Int)), ())), (((wI (a1 + 1)), (a3, (a3, (a7, ((wI (a9 - 1)), (a11, (true, ()))))))), ())); bif (eqI a5 0) then (bif (ltI 0 a9) then (bif (eqI (Int.tmod a1 32) (0 : Int)) then (bif (ltI 0 a9) then (bif a10.2.1 then (bif (! (eqI (Int.tmod a1 16) (15 : Int))) then X8 else bif (eqI (wI (a9 - 1)) (0 : Int)) then X8 else some (((wI ((8 : Int) * (wI ((1 : Int) - a7)))), (true, ())), (((wI (a1 + 1)), (a3, (a3, ((wI ((1 : Int) - a7)), ((wI (a9 - 1)), (a11, (true, ()))))))), ()))) else bif (eqI (wI (a9 - 1)) (0 : Int)) then (bif (! (eqI (Int.tmod a1 16) (15 : Int))) then X4 else bif (eqI (wI (a9 - 1)) (0 : Int)) then X4 else some (((wI ((8 : Int) * (wI ((1 : Int) - a7)))), (true, ())), (((wI (a1 + 1)), (a3, (a3, ((wI ((1 : Int) - a7)), ((wI (a9 - 1)), (a11, (a11, ()))))))), ()))) else bif (! (eqI (Int.tmod a1 16) (15 : Int))) then X7 else bif (eqI (wI (a9 - 1)) (0 : Int)) then X7 else some (((wI ((8 : Int) * (wI ((1 : Int) - a7)))), (true, ())), (((wI (a1 + 1)), (a3, (a3, ((wI ((1 : Int) - a7)), ((wI (a9 - 1)), (a11, (false, ()))))))), ()))) else X0) else X0) else bif (eqI (Int.tmod a1 32) (0 : Int)) then (bif (ltI 0 a9) then (bif a10.2.1 then (bif (! (eqI (Int.tmod a1 16) (15 : Int))) then X11 else bif (eqI (wI (a9 - 1)) (0 : Int)) then X11 else some (((wI ((8 : Int) * a7)), (true, ())), (((wI (a1 + 1)), (a3, (a3, (a7, ((wI (a9 - 1)), (a11, (true, ()))))))), ()))) else bif (eqI (wI (a9 - 1)) (0 : Int)) then (bif (! (eqI (Int.tmod a1 16) (15 : Int))) then X9 else bif (eqI (wI (a9 - 1)) (0 : Int)) then X9 else some (((wI ((8 : Int) * a7)), (true, ())), (((wI (a1 + 1)), (a3, (a3, (a7, ((wI (a9 - 1)), (a11, (a11, ()))))))), ()))) else bif (! (eqI (Int.tmod a1 16) (15 : Int))) then X10 else bif (eqI (wI (a9 - 1)) (0 : Int)) then X10 else some (((wI ((8 : Int) * a7)), (true, ())), (((wI (a1 + 1)), (a3, (a3, (a7, ((wI (a9 - 1)), (a11, (false, ()))))))), ()))) else X2) else X2) else bif (eqI (Int.tmod a1 32) (0 : Int)) then (bif (ltI 0 a9) then (bif a10.2.1 then (bif (! (eqI (Int.tmod a1 16) (15 : Int))) then X6 else bif (eqI (wI (a9 - 1)) (0 : Int)) then X6 else some (((wI ((8 : Int) * a7)), (true, ())), (((wI (a1 + 1)), (a3, ((wI (a5 - 1)), (a7, ((wI (a9 - 1)), (a11, (true, ()))))))), ()))) else bif (eqI (wI (a9 - 1)) (0 : Int)) then (bif (! (eqI (Int.tmod a1 16) (15 : Int))) then X3 else bif (eqI (wI (a9 - 1)) (0 : Int)) then X3 else some (((wI ((8 : Int) * a7)), (true, ())), (((wI (a1 + 1)), (a3, ((wI (a5 - 1)), (a7, ((wI (a9 - 1)), (a11, (a11, ()))))))), ()))) else bif (! (eqI (Int.tmod a1 16) (15 : Int))) then X5 else bif (eqI (wI (a9 - 1)) (0 : Int)) then X5 else some (((wI ((8 : Int) * a7)), (true, ())), (((wI (a1 + 1)), (a3, ((wI (a5 - 1)), (a7, ((wI (a9 - 1)), (a11, (false, ()))))))), ()))) else X1) else X1
theorem s256 (y) : TE [] Tryz.f256 i256 o256 y = m256 y := by kernel_rfl
noncomputable def r256 : F256 := m256 
theorem k256 : KO (g256 r256) := fk (s256 ) trivial (by kernel_rfl)
abbrev i218 : Ts := [.p q15, .v (.int .i64)]
abbrev o218 : Ts := [.v (.bool)]
abbrev F218 := FT i218 o218
abbrev g218 := mkG 218 i218 o218
noncomputable def m218 (c256 : F256) (c284 : F284) (c286 : F286) (y : PTup i218) : Option (PTup o218 × BTup i218) :=
  (c284 ((y.1.2.2.2.2.2.2.2.1, (y.1.2.2.2.2.2.2.2.2.1, ())), (y.1.1, ()))).bind fun r0 =>
  bif r0.1.2.1 then ((c286 ((y.1.1, (y.1.2.1, (y.1.2.2.1, (y.1.2.2.2.1, (y.1.2.2.2.2.1, (y.1.2.2.2.2.2.1, (y.1.2.2.2.2.2.2.1, ()))))))), r0.1.1.2)).bind fun r1 =>
   some ((true, ()), ((r1.1.1.1, (r1.1.1.2.1, (r1.1.1.2.2.1, (r1.1.1.2.2.2.1, (r1.1.1.2.2.2.2.1, (r1.1.1.2.2.2.2.2.1, (r1.1.1.2.2.2.2.2.2.1, (r0.2.1.1, (r0.2.1.2.1, y.1.2.2.2.2.2.2.2.2.2))))))))), ())))
  else bif (leI (mnI y.2.1 (20000 : Int)) y.1.1) then (some ((false, ()), ((y.1.1, (y.1.2.1, (y.1.2.2.1, (y.1.2.2.2.1, (y.1.2.2.2.2.1, (y.1.2.2.2.2.2.1, (y.1.2.2.2.2.2.2.1, (r0.2.1.1, (r0.2.1.2.1, y.1.2.2.2.2.2.2.2.2.2))))))))), ())))
  else (c256 ((y.1.1, (y.1.2.1, (y.1.2.2.1, (y.1.2.2.2.1, (y.1.2.2.2.2.1, (y.1.2.2.2.2.2.1, (y.1.2.2.2.2.2.2.1, ()))))))), ())).bind fun r1 =>
  bif r1.1.2.1 then (bif (leN ((List.length y.1.2.2.2.2.2.2.2.2.2.1) + (List.length (r1.1.1 :: []))) (E.most .i)) then (some ((true, ()), ((r1.2.1.1, (r1.2.1.2.1, (r1.2.1.2.2.1, (r1.2.1.2.2.2.1, (r1.2.1.2.2.2.2.1, (r1.2.1.2.2.2.2.2.1, (r1.2.1.2.2.2.2.2.2.1, (r0.2.1.1, (r0.2.1.2.1, ((y.1.2.2.2.2.2.2.2.2.2.1 ++ (r1.1.1 :: [])), ())))))))))), ())))
   else none)
  else some ((true, ()), ((r1.2.1.1, (r1.2.1.2.1, (r1.2.1.2.2.1, (r1.2.1.2.2.2.1, (r1.2.1.2.2.2.2.1, (r1.2.1.2.2.2.2.2.1, (r1.2.1.2.2.2.2.2.2.1, (r0.2.1.1, (r0.2.1.2.1, y.1.2.2.2.2.2.2.2.2.2))))))))), ()))
theorem s218 (c256 : F256) (c284 : F284) (c286 : F286) (y) : TE [g256 c256, g284 c284, g286 c286] Tryz.f218 i218 o218 y = m218 c256 c284 c286 y := by kernel_rfl
noncomputable def r218 : F218 := m218 r256 r284 r286 
theorem k218 : KO (g218 r218) := fk (s218 r256 r284 r286) ⟨k256, k284, k286, ⟨⟩⟩ (by kernel_rfl)
abbrev i161 : Ts := [.p q15, .v (.int .i64)]
abbrev o161 : Ts := []
abbrev F161 := FT i161 o161
abbrev g161 := mkG 161 i161 o161
abbrev lc161_0 : Ts := [.v (.int .i64)]
abbrev lb161_0 : Ts := [.p q15]
abbrev lv161_0 : Ts := []
abbrev lr161_0 : Ts := []
abbrev R161_0 := Option (Sum (PTup lv161_0) (PTup lr161_0) × BTup lb161_0)
abbrev B161_0 := PTup lb161_0 → PTup lv161_0 → R161_0
abbrev A161_0 := PTup lc161_0 → B161_0
noncomputable def w161_0 (c218 : F218) (again : B161_0) (x : PTup lc161_0) (y : PTup lb161_0) (z : PTup lv161_0) : R161_0 :=
  (c218 (y.1, x)).bind fun r0 =>
  bif r0.1.1 then (again (r0.2.1, ()) ())
  else some ((Sum.inl ()), (r0.2.1, ()))
noncomputable def e161_0 (l : A161_0) : LoopE := ⟨[1], lc161_0, [0], lb161_0, [], lv161_0, [], lr161_0, 0, [], l⟩
noncomputable def m161 (c218 : F218) (l0 : A161_0) (y : PTup i161) : Option (PTup o161 × BTup i161) :=
  (l0 y.2 (y.1, ()) ()).bind fun r0 =>
  sumElim r0.1 (fun r1 => some ((), (r0.2.1, ())))
  (fun r1 => some ((), (r0.2.1, ())))
noncomputable def E161 (c218 : F218) (l0 : A161_0) : CEnv := ⟨⟨Tryz.prog, fnsL [g218 c218]⟩, loopsL [(0, e161_0 l0)]⟩
theorem t161_0 (c218 : F218) (l0 : A161_0) (again) (x y z) : loopRound (E161 c218 l0) (loopAt (bodyOf Tryz.f161) 0) (e161_0 l0) Tryz.f161.ntmps again x y z = w161_0 c218 again x y z := by kernel_rfl
noncomputable def n161_0 (c218 : F218) : Nat → A161_0
  | 0, _, _, _ => none
  | n + 1, x, y, z => w161_0 c218 (fun y z => n161_0 c218 n x y z) x y z
theorem s161 (c218 : F218) (l0 : A161_0) (y) : tevF (E161 c218 l0) Tryz.f161 i161 o161 y = m161 c218 l0 y := by kernel_rfl
noncomputable def L161_0 : A161_0 := n161_0 r218 fuel
noncomputable def r161 : F161 := m161 r218 L161_0
theorem k161 : KO (g161 r161) := by
  have hE : ∀ g f, (E161 r218 L161_0).env.fns g = some f → CallOk Tryz.prog g f := fnsL_ok ⟨k218, ⟨⟩⟩
  have h0 : LoopOk Tryz.prog Tryz.f161.ntmps (loopAt (bodyOf Tryz.f161) 0) (e161_0 L161_0) := lp_ok (E := E161 r218 L161_0) rfl hE mixed (AllLoops.of_list (l := []) (by kernel_rfl) trivial) (n161_0 r218 ) (fun _ _ _ => rfl) (fun n x y z => t161_0 r218 L161_0 _ x y z) rfl
  exact fn_ok (E := E161 r218 L161_0) rfl hE mixed (by kernel_rfl) (by kernel_rfl) (AllLoops.of_list (l := [(loopAt (bodyOf Tryz.f161) 0)]) (by kernel_rfl) (.one (by kernel_rfl) h0 trivial)) (s161 r218 L161_0)
abbrev i70 : Ts := [.p [.sl false .n, .sl false .i, .sl false .i, .int .i64, .int .i64, .int .i64, .int .i64, .int .i64, .bool, .bool, .bool, .bool, .bool, .int .i64, .int .i64, .bool, .int .i64, .bool, .int .i64, .int .i64, .sl false .i, .int .i64, .int .i64, .int .i64, .int .i64, .int .i64, .bool, .sl true .i, .sl true .i, .int .i64, .sl true .t, .sl true .n, .int .i64, .int .i64, .int .i64, .int .i64, .int .i64, .bool, .bool, .int .i64, .sl true .t, .sl true .i]]
abbrev o70 : Ts := []
abbrev F70 := FT i70 o70
abbrev g70 := mkG 70 i70 o70
noncomputable def m70 (c160 : F160) (c161 : F161) (y : PTup i70) : Option (PTup o70 × BTup i70) :=
  let a0 := y.1; let a1 := a0.2; let a2 := a1.2; let a3 := a2.2; let a4 := a3.2; let a5 := a4.2; let a6 := a5.2; let a7 := a6.2; let a8 := a7.2; let a9 := a8.2; let a10 := a9.2; let a11 := a10.2; let a12 := a11.2; let a13 := a12.2; let a14 := a13.2; let a15 := a14.2; let a16 := a15.2; let a17 := a16.2; let a18 := a17.2; let a19 := a18.2; let a20 := a19.2; let a21 := a20.2; let a22 := a21.2; let a23 := a22.2; let a24 := a23.2.2; let a25 := a24.2.2; (c160 ((a21.1, (a22.1, (a23.1, (a23.2.1, (a24.1, (a24.2.1, (a25.1, (a25.2.1, (a25.2.2.1, (a25.2.2.2.1, (a25.2.2.2.2.1, ()))))))))))), (a14.1, ()))).bind fun r0 =>
  (c161 (a25.2.2.2.2.2, (a14.1, ()))).bind fun r1 =>
  some ((), ((a0.1, (a1.1, (a2.1, (a3.1, (a4.1, (a5.1, (a6.1, (a7.1, (a8.1, (a9.1, (a10.1, (a11.1, (a12.1, (a13.1, (a14.1, (a15.1, (a16.1, (a17.1, (a18.1, (a19.1, (a20.1, (r0.2.1.1, (r0.2.1.2.1, (r0.2.1.2.2.1, (r0.2.1.2.2.2.1, (r0.2.1.2.2.2.2.1, (r0.2.1.2.2.2.2.2.1, (r0.2.1.2.2.2.2.2.2.1, (r0.2.1.2.2.2.2.2.2.2.1, (r0.2.1.2.2.2.2.2.2.2.2.1, (r0.2.1.2.2.2.2.2.2.2.2.2.1, (r0.2.1.2.2.2.2.2.2.2.2.2.2.1, r1.2.1)))))))))))))))))))))))))))))))), ()))
theorem s70 (c160 : F160) (c161 : F161) (y) : TE [g160 c160, g161 c161] Tryz.f70 i70 o70 y = m70 c160 c161 y := by kernel_rfl
noncomputable def r70 : F70 := m70 r160 r161 
theorem k70 : KO (g70 r70) := fk (s70 r160 r161) ⟨k160, k161, ⟨⟩⟩ (by kernel_rfl)
abbrev i18 : Ts := [.a q6]
abbrev o18 : Ts := [.a q16]
abbrev F18 := FT i18 o18
abbrev g18 := mkG 18 i18 o18
noncomputable def m18 (c70 : F70) (c69 : F69) (c68 : F68) (y : PTup i18) : Option (PTup o18 × BTup i18) :=
  (c68 (y.1, ())).bind fun r0 =>
  (c69 (y.1, ())).bind fun r1 =>
  bif r1.1.1 then ((c70 (r0.1.1, ())).bind fun r2 => let f0 := r2.2; let f1 := f0.1; let f2 := f1.2; let f3 := f2.2; let f4 := f3.2; let f5 := f4.2; let f6 := f5.2; let f7 := f6.2; let f8 := f7.2; let f9 := f8.2; let f10 := f9.2.2; let f11 := f10.2; let f12 := f11.2.2; let f13 := f12.2.2; some (((r0.1.1.1, (r0.1.1.2.1, (r0.1.1.2.2.1, (f4.1, (f5.1, (f6.1, (f7.1, (f8.1, (f9.1, (f9.2.1, (f10.1, (f11.1, (f11.2.1, (f12.1, (f12.2.1, (f13.1, (f13.2.1, (f13.2.2.1, (f13.2.2.2.1, (f13.2.2.2.2.1, (r0.1.1.2.2.2.2.2.2.2.2.2.2.2.2.2.2.2.2.2.2.2.2.1, f13.2.2.2.2.2.2))))))))))))))))))))), ()), ()))
  else some ((r0.1.1, ()), ())
theorem s18 (c70 : F70) (c69 : F69) (c68 : F68) (y) : TE [g70 c70, g69 c69, g68 c68] Tryz.f18 i18 o18 y = m18 c70 c69 c68 y := by kernel_rfl
noncomputable def r18 : F18 := m18 r70 r69 r68 
theorem k18 : KO (g18 r18) := fk (s18 r70 r69 r68) ⟨k70, k69, k68, ⟨⟩⟩ (by kernel_rfl)
abbrev i35 : Ts := [.v (.sl false .i), .v (.sl false .i)]
abbrev o35 : Ts := [.v (.bool)]
abbrev F35 := FT i35 o35
abbrev g35 := mkG 35 i35 o35
abbrev lc35_0 : Ts := [.v (.sl false .i), .v (.sl false .i)]
abbrev lb35_0 : Ts := []
abbrev lv35_0 : Ts := [.v (.int .i64)]
abbrev lr35_0 : Ts := [.v (.bool)]
abbrev R35_0 := Option (Sum (PTup lv35_0) (PTup lr35_0) × BTup lb35_0)
abbrev B35_0 := PTup lb35_0 → PTup lv35_0 → R35_0
abbrev A35_0 := PTup lc35_0 → B35_0
noncomputable def w35_0 (again : B35_0) (x : PTup lc35_0) (y : PTup lb35_0) (z : PTup lv35_0) : R35_0 :=
  bif (ltI z.1 (lenI x.1)) then (bif (leI 0 z.1) then (bif (ltI z.1 (lenI x.1)) then (bif (leI 0 z.1) then (bif (ltI z.1 (lenI x.2.1)) then (bif (neI (rdE .i x.1 z.1) (rdE .i x.2.1 z.1)) then (some ((Sum.inr (false, ())), ()))
       else again () ((wI (z.1 + 1)), ()))
      else none)
     else none)
    else none)
   else none)
  else some ((Sum.inl z), ())
noncomputable def e35_0 (l : A35_0) : LoopE := ⟨[0, 1], lc35_0, [], lb35_0, [5], lv35_0, [4], lr35_0, 0, [], l⟩
noncomputable def m35 (l0 : A35_0) (y : PTup i35) : Option (PTup o35 × BTup i35) :=
  bif (neI (lenI y.1) (lenI y.2.1)) then no
  else (l0 y () ((0 : Int), ())).bind fun r0 =>
  sumElim r0.1 (fun r1 => some ((true, ()), ()))
  (fun r1 => some (r1, ()))
noncomputable def E35 (l0 : A35_0) : CEnv := ⟨⟨Tryz.prog, fnsL []⟩, loopsL [(4, e35_0 l0)]⟩
theorem t35_0 (l0 : A35_0) (again) (x y z) : loopRound (E35 l0) (loopAt (bodyOf Tryz.f35) 0) (e35_0 l0) Tryz.f35.ntmps again x y z = w35_0 again x y z := by kernel_rfl
noncomputable def n35_0 : Nat → A35_0
  | 0, _, _, _ => none
  | n + 1, x, y, z => w35_0 (fun y z => n35_0 n x y z) x y z
theorem s35 (l0 : A35_0) (y) : tevF (E35 l0) Tryz.f35 i35 o35 y = m35 l0 y := by kernel_rfl
noncomputable def L35_0 : A35_0 := n35_0 fuel
noncomputable def r35 : F35 := m35 L35_0
theorem k35 : KO (g35 r35) := by
  have hE : ∀ g f, (E35 L35_0).env.fns g = some f → CallOk Tryz.prog g f := fnsL_ok trivial
  have h0 : LoopOk Tryz.prog Tryz.f35.ntmps (loopAt (bodyOf Tryz.f35) 0) (e35_0 L35_0) := lp_ok (E := E35 L35_0) rfl hE mixed (AllLoops.of_list (l := []) (by kernel_rfl) trivial) (n35_0 ) (fun _ _ _ => rfl) (fun n x y z => t35_0 L35_0 _ x y z) rfl
  exact fn_ok (E := E35 L35_0) rfl hE mixed (by kernel_rfl) (by kernel_rfl) (AllLoops.of_list (l := [(loopAt (bodyOf Tryz.f35) 0)]) (by kernel_rfl) (.one (by kernel_rfl) h0 trivial)) (s35 L35_0)
abbrev i162 : Ts := [.v (.sl false .n), .v (.sl false .n)]
abbrev o162 : Ts := [.v (.bool)]
abbrev F162 := FT i162 o162
abbrev g162 := mkG 162 i162 o162
abbrev lc162_0 : Ts := [.v (.sl false .n), .v (.sl false .n)]
abbrev lb162_0 : Ts := []
abbrev lv162_0 : Ts := [.v (.int .i64)]
abbrev lr162_0 : Ts := [.v (.bool)]
abbrev R162_0 := Option (Sum (PTup lv162_0) (PTup lr162_0) × BTup lb162_0)
abbrev B162_0 := PTup lb162_0 → PTup lv162_0 → R162_0
abbrev A162_0 := PTup lc162_0 → B162_0
noncomputable def w162_0 (c35 : F35) (again : B162_0) (x : PTup lc162_0) (y : PTup lb162_0) (z : PTup lv162_0) : R162_0 :=
  bif (ltI z.1 (lenI x.1)) then (bif (leI 0 z.1) then (bif (ltI z.1 (lenI x.1)) then (bif (leI 0 z.1) then (bif (ltI z.1 (lenI x.2.1)) then ((c35 ((rdE .n x.1 z.1), ((rdE .n x.2.1 z.1), ()))).bind fun r0 =>
       bif (!r0.1.1) then (some ((Sum.inr (false, ())), ()))
       else again () ((wI (z.1 + 1)), ()))
      else none)
     else none)
    else none)
   else none)
  else some ((Sum.inl z), ())
noncomputable def e162_0 (l : A162_0) : LoopE := ⟨[0, 1], lc162_0, [], lb162_0, [5], lv162_0, [4], lr162_0, 0, [], l⟩
noncomputable def m162 (c35 : F35) (l0 : A162_0) (y : PTup i162) : Option (PTup o162 × BTup i162) :=
  bif (neI (lenI y.1) (lenI y.2.1)) then no
  else (l0 y () ((0 : Int), ())).bind fun r0 =>
  sumElim r0.1 (fun r1 => some ((true, ()), ()))
  (fun r1 => some (r1, ()))
noncomputable def E162 (c35 : F35) (l0 : A162_0) : CEnv := ⟨⟨Tryz.prog, fnsL [g35 c35]⟩, loopsL [(4, e162_0 l0)]⟩
theorem t162_0 (c35 : F35) (l0 : A162_0) (again) (x y z) : loopRound (E162 c35 l0) (loopAt (bodyOf Tryz.f162) 0) (e162_0 l0) Tryz.f162.ntmps again x y z = w162_0 c35 again x y z := by kernel_rfl
noncomputable def n162_0 (c35 : F35) : Nat → A162_0
  | 0, _, _, _ => none
  | n + 1, x, y, z => w162_0 c35 (fun y z => n162_0 c35 n x y z) x y z
theorem s162 (c35 : F35) (l0 : A162_0) (y) : tevF (E162 c35 l0) Tryz.f162 i162 o162 y = m162 c35 l0 y := by kernel_rfl
noncomputable def L162_0 : A162_0 := n162_0 r35 fuel
noncomputable def r162 : F162 := m162 r35 L162_0
theorem k162 : KO (g162 r162) := by
  have hE : ∀ g f, (E162 r35 L162_0).env.fns g = some f → CallOk Tryz.prog g f := fnsL_ok ⟨k35, ⟨⟩⟩
  have h0 : LoopOk Tryz.prog Tryz.f162.ntmps (loopAt (bodyOf Tryz.f162) 0) (e162_0 L162_0) := lp_ok (E := E162 r35 L162_0) rfl hE mixed (AllLoops.of_list (l := []) (by kernel_rfl) trivial) (n162_0 r35 ) (fun _ _ _ => rfl) (fun n x y z => t162_0 r35 L162_0 _ x y z) rfl
  exact fn_ok (E := E162 r35 L162_0) rfl hE mixed (by kernel_rfl) (by kernel_rfl) (AllLoops.of_list (l := [(loopAt (bodyOf Tryz.f162) 0)]) (by kernel_rfl) (.one (by kernel_rfl) h0 trivial)) (s162 r35 L162_0)
abbrev i71 : Ts := [.a q0, .a q0]
abbrev o71 : Ts := [.v (.bool)]
abbrev F71 := FT i71 o71
abbrev g71 := mkG 71 i71 o71
noncomputable def m71 (c162 : F162) (y : PTup i71) : Option (PTup o71 × BTup i71) :=
  (c162 (y.1.1, y.2.1)).bind fun r0 =>
  bif (!r0.1.1) then no
  else some ((true, ()), ())
theorem s71 (c162 : F162) (y) : TE [g162 c162] Tryz.f71 i71 o71 y = m71 c162 y := by kernel_rfl
noncomputable def r71 : F71 := m71 r162 
theorem k71 : KO (g71 r71) := fk (s71 r162) ⟨k162, ⟨⟩⟩ (by kernel_rfl)
abbrev i72 : Ts := [.a q1, .a q1]
abbrev o72 : Ts := [.v (.bool)]
abbrev F72 := FT i72 o72
abbrev g72 := mkG 72 i72 o72
noncomputable def m72 (c35 : F35) (y : PTup i72) : Option (PTup o72 × BTup i72) :=
  (c35 (y.1.1, (y.2.1.1, ()))).bind fun r0 =>
  bif (!r0.1.1) then no
  else bif (neI y.1.2.1 y.2.1.2.1) then no
  else some ((true, ()), ())
theorem s72 (c35 : F35) (y) : TE [g35 c35] Tryz.f72 i72 o72 y = m72 c35 y := by kernel_rfl
noncomputable def r72 : F72 := m72 r35 
theorem k72 : KO (g72 r72) := fk (s72 r35) ⟨k35, ⟨⟩⟩ (by kernel_rfl)
abbrev i73 : Ts := [.a q8, .a q8]
abbrev o73 : Ts := [.v (.bool)]
abbrev F73 := FT i73 o73
abbrev g73 := mkG 73 i73 o73
noncomputable def m73 (y : PTup i73) : Option (PTup o73 × BTup i73) :=
  bif (neI y.1.1 y.2.1.1) then no
  else bif (neI y.1.2.1 y.2.1.2.1) then no
  else bif (neI y.1.2.2.1 y.2.1.2.2.1) then no
  else bif (neI y.1.2.2.2.1 y.2.1.2.2.2.1) then no
  else bif (!(y.1.2.2.2.2.1 == y.2.1.2.2.2.2.1)) then no
  else bif (!(y.1.2.2.2.2.2.1 == y.2.1.2.2.2.2.2.1)) then no
  else bif (!(y.1.2.2.2.2.2.2.1 == y.2.1.2.2.2.2.2.2.1)) then no
  else bif (!(y.1.2.2.2.2.2.2.2.1 == y.2.1.2.2.2.2.2.2.2.1)) then no
  else some ((true, ()), ())
theorem s73 (y) : TE [] Tryz.f73 i73 o73 y = m73 y := by kernel_rfl
noncomputable def r73 : F73 := m73 
theorem k73 : KO (g73 r73) := fk (s73 ) trivial (by kernel_rfl)
abbrev i74 : Ts := [.a q9, .a q9]
abbrev o74 : Ts := [.v (.bool)]
abbrev F74 := FT i74 o74
abbrev g74 := mkG 74 i74 o74
noncomputable def m74 (y : PTup i74) : Option (PTup o74 × BTup i74) :=
  bif (!(y.1.1 == y.2.1.1)) then no
  else bif (neI y.1.2.1 y.2.1.2.1) then no
  else some ((true, ()), ())
theorem s74 (y) : TE [] Tryz.f74 i74 o74 y = m74 y := by kernel_rfl
noncomputable def r74 : F74 := m74 
theorem k74 : KO (g74 r74) := fk (s74 ) trivial (by kernel_rfl)
abbrev i97 : Ts := [.a q2, .a q2]
abbrev o97 : Ts := [.v (.bool)]
abbrev F97 := FT i97 o97
abbrev g97 := mkG 97 i97 o97
noncomputable def m97 (c35 : F35) (y : PTup i97) : Option (PTup o97 × BTup i97) :=
  bif (neI y.1.1 y.2.1.1) then no
  else bif (neI y.1.2.1 y.2.1.2.1) then no
  else bif (neI y.1.2.2.1 y.2.1.2.2.1) then no
  else bif (neI y.1.2.2.2.1 y.2.1.2.2.2.1) then no
  else bif (neI y.1.2.2.2.2.1 y.2.1.2.2.2.2.1) then no
  else bif (!(y.1.2.2.2.2.2.1 == y.2.1.2.2.2.2.2.1)) then no
  else (c35 (y.1.2.2.2.2.2.2.1, (y.2.1.2.2.2.2.2.2.1, ()))).bind fun r0 =>
  bif (!r0.1.1) then no
  else (c35 (y.1.2.2.2.2.2.2.2.1, y.2.1.2.2.2.2.2.2.2)).bind fun r1 =>
  bif (!r1.1.1) then no
  else some ((true, ()), ())
theorem s97 (c35 : F35) (y) : TE [g35 c35] Tryz.f97 i97 o97 y = m97 c35 y := by kernel_rfl
noncomputable def r97 : F97 := m97 r35 
theorem k97 : KO (g97 r97) := fk (s97 r35) ⟨k35, ⟨⟩⟩ (by kernel_rfl)
abbrev i291 : Ts := [.a q11, .a q11]
abbrev o291 : Ts := [.v (.bool)]
abbrev F291 := FT i291 o291
abbrev g291 := mkG 291 i291 o291
noncomputable def m291 (y : PTup i291) : Option (PTup o291 × BTup i291) :=
  bif (neI y.1.1 y.2.1.1) then no
  else bif (neI y.1.2.1 y.2.1.2.1) then no
  else bif (neI y.1.2.2.1 y.2.1.2.2.1) then no
  else some ((true, ()), ())
theorem s291 (y) : TE [] Tryz.f291 i291 o291 y = m291 y := by kernel_rfl
noncomputable def r291 : F291 := m291 
theorem k291 : KO (g291 r291) := fk (s291 ) trivial (by kernel_rfl)
abbrev i238 : Ts := [.v (.sl false .t), .v (.sl false .t)]
abbrev o238 : Ts := [.v (.bool)]
abbrev F238 := FT i238 o238
abbrev g238 := mkG 238 i238 o238
abbrev lc238_0 : Ts := [.v (.sl false .t), .v (.sl false .t)]
abbrev lb238_0 : Ts := []
abbrev lv238_0 : Ts := [.v (.int .i64)]
abbrev lr238_0 : Ts := [.v (.bool)]
abbrev R238_0 := Option (Sum (PTup lv238_0) (PTup lr238_0) × BTup lb238_0)
abbrev B238_0 := PTup lb238_0 → PTup lv238_0 → R238_0
abbrev A238_0 := PTup lc238_0 → B238_0
noncomputable def w238_0 (c291 : F291) (again : B238_0) (x : PTup lc238_0) (y : PTup lb238_0) (z : PTup lv238_0) : R238_0 :=
  bif (ltI z.1 (lenI x.1)) then (bif (leI 0 z.1) then (bif (ltI z.1 (lenI x.1)) then (bif (leI 0 z.1) then (bif (ltI z.1 (lenI x.2.1)) then ((c291 (((rdE .t x.1 z.1).1, ((rdE .t x.1 z.1).2.1, ((rdE .t x.1 z.1).2.2, ()))), (((rdE .t x.2.1 z.1).1, ((rdE .t x.2.1 z.1).2.1, ((rdE .t x.2.1 z.1).2.2, ()))), ()))).bind fun r0 =>
       bif (!r0.1.1) then (some ((Sum.inr (false, ())), ()))
       else again () ((wI (z.1 + 1)), ()))
      else none)
     else none)
    else none)
   else none)
  else some ((Sum.inl z), ())
noncomputable def e238_0 (l : A238_0) : LoopE := ⟨[0, 1], lc238_0, [], lb238_0, [5], lv238_0, [4], lr238_0, 0, [], l⟩
noncomputable def m238 (c291 : F291) (l0 : A238_0) (y : PTup i238) : Option (PTup o238 × BTup i238) :=
  bif (neI (lenI y.1) (lenI y.2.1)) then no
  else (l0 y () ((0 : Int), ())).bind fun r0 =>
  sumElim r0.1 (fun r1 => some ((true, ()), ()))
  (fun r1 => some (r1, ()))
noncomputable def E238 (c291 : F291) (l0 : A238_0) : CEnv := ⟨⟨Tryz.prog, fnsL [g291 c291]⟩, loopsL [(4, e238_0 l0)]⟩
theorem t238_0 (c291 : F291) (l0 : A238_0) (again) (x y z) : loopRound (E238 c291 l0) (loopAt (bodyOf Tryz.f238) 0) (e238_0 l0) Tryz.f238.ntmps again x y z = w238_0 c291 again x y z := by kernel_rfl
noncomputable def n238_0 (c291 : F291) : Nat → A238_0
  | 0, _, _, _ => none
  | n + 1, x, y, z => w238_0 c291 (fun y z => n238_0 c291 n x y z) x y z
theorem s238 (c291 : F291) (l0 : A238_0) (y) : tevF (E238 c291 l0) Tryz.f238 i238 o238 y = m238 c291 l0 y := by kernel_rfl
noncomputable def L238_0 : A238_0 := n238_0 r291 fuel
noncomputable def r238 : F238 := m238 r291 L238_0
theorem k238 : KO (g238 r238) := by
  have hE : ∀ g f, (E238 r291 L238_0).env.fns g = some f → CallOk Tryz.prog g f := fnsL_ok ⟨k291, ⟨⟩⟩
  have h0 : LoopOk Tryz.prog Tryz.f238.ntmps (loopAt (bodyOf Tryz.f238) 0) (e238_0 L238_0) := lp_ok (E := E238 r291 L238_0) rfl hE mixed (AllLoops.of_list (l := []) (by kernel_rfl) trivial) (n238_0 r291 ) (fun _ _ _ => rfl) (fun n x y z => t238_0 r291 L238_0 _ x y z) rfl
  exact fn_ok (E := E238 r291 L238_0) rfl hE mixed (by kernel_rfl) (by kernel_rfl) (AllLoops.of_list (l := [(loopAt (bodyOf Tryz.f238) 0)]) (by kernel_rfl) (.one (by kernel_rfl) h0 trivial)) (s238 r291 L238_0)
abbrev i163 : Ts := [.a q3, .a q3]
abbrev o163 : Ts := [.v (.bool)]
abbrev F163 := FT i163 o163
abbrev g163 := mkG 163 i163 o163
noncomputable def m163 (c238 : F238) (y : PTup i163) : Option (PTup o163 × BTup i163) :=
  bif (neI y.1.1 y.2.1.1) then no
  else (c238 (y.1.2.1, y.2.1.2)).bind fun r0 =>
  bif (!r0.1.1) then no
  else some ((true, ()), ())
theorem s163 (c238 : F238) (y) : TE [g238 c238] Tryz.f163 i163 o163 y = m163 c238 y := by kernel_rfl
noncomputable def r163 : F163 := m163 r238 
theorem k163 : KO (g163 r163) := fk (s163 r238) ⟨k238, ⟨⟩⟩ (by kernel_rfl)
abbrev i75 : Ts := [.a q4, .a q4]
abbrev o75 : Ts := [.v (.bool)]
abbrev F75 := FT i75 o75
abbrev g75 := mkG 75 i75 o75
noncomputable def m75 (c162 : F162) (c97 : F97) (c163 : F163) (y : PTup i75) : Option (PTup o75 × BTup i75) :=
  (c97 ((y.1.1, (y.1.2.1, (y.1.2.2.1, (y.1.2.2.2.1, (y.1.2.2.2.2.1, (y.1.2.2.2.2.2.1, (y.1.2.2.2.2.2.2.1, (y.1.2.2.2.2.2.2.2.1, ())))))))), ((y.2.1.1, (y.2.1.2.1, (y.2.1.2.2.1, (y.2.1.2.2.2.1, (y.2.1.2.2.2.2.1, (y.2.1.2.2.2.2.2.1, (y.2.1.2.2.2.2.2.2.1, (y.2.1.2.2.2.2.2.2.2.1, ())))))))), ()))).bind fun r0 =>
  bif (!r0.1.1) then no
  else (c163 ((y.1.2.2.2.2.2.2.2.2.1, (y.1.2.2.2.2.2.2.2.2.2.1, ())), ((y.2.1.2.2.2.2.2.2.2.2.1, (y.2.1.2.2.2.2.2.2.2.2.2.1, ())), ()))).bind fun r1 =>
  bif (!r1.1.1) then no
  else (c162 (y.1.2.2.2.2.2.2.2.2.2.2.1, y.2.1.2.2.2.2.2.2.2.2.2.2)).bind fun r2 =>
  bif (!r2.1.1) then no
  else some ((true, ()), ())
theorem s75 (c162 : F162) (c97 : F97) (c163 : F163) (y) : TE [g162 c162, g97 c97, g163 c163] Tryz.f75 i75 o75 y = m75 c162 c97 c163 y := by kernel_rfl
noncomputable def r75 : F75 := m75 r162 r97 r163 
theorem k75 : KO (g75 r75) := fk (s75 r162 r97 r163) ⟨k162, k97, k163, ⟨⟩⟩ (by kernel_rfl)
abbrev i98 : Ts := [.a q14, .a q14]
abbrev o98 : Ts := [.v (.bool)]
abbrev F98 := FT i98 o98
abbrev g98 := mkG 98 i98 o98
noncomputable def m98 (y : PTup i98) : Option (PTup o98 × BTup i98) :=
  bif (neI y.1.1 y.2.1.1) then no
  else bif (neI y.1.2.1 y.2.1.2.1) then no
  else bif (neI y.1.2.2.1 y.2.1.2.2.1) then no
  else bif (neI y.1.2.2.2.1 y.2.1.2.2.2.1) then no
  else bif (neI y.1.2.2.2.2.1 y.2.1.2.2.2.2.1) then no
  else bif (!(y.1.2.2.2.2.2.1 == y.2.1.2.2.2.2.2.1)) then no
  else bif (!(y.1.2.2.2.2.2.2.1 == y.2.1.2.2.2.2.2.2.1)) then no
  else some ((true, ()), ())
theorem s98 (y) : TE [] Tryz.f98 i98 o98 y = m98 y := by kernel_rfl
noncomputable def r98 : F98 := m98 
theorem k98 : KO (g98 r98) := fk (s98 ) trivial (by kernel_rfl)
abbrev i76 : Ts := [.a q5, .a q5]
abbrev o76 : Ts := [.v (.bool)]
abbrev F76 := FT i76 o76
abbrev g76 := mkG 76 i76 o76
noncomputable def m76 (c98 : F98) (c35 : F35) (c163 : F163) (y : PTup i76) : Option (PTup o76 × BTup i76) :=
  (c98 ((y.1.1, (y.1.2.1, (y.1.2.2.1, (y.1.2.2.2.1, (y.1.2.2.2.2.1, (y.1.2.2.2.2.2.1, (y.1.2.2.2.2.2.2.1, ()))))))), ((y.2.1.1, (y.2.1.2.1, (y.2.1.2.2.1, (y.2.1.2.2.2.1, (y.2.1.2.2.2.2.1, (y.2.1.2.2.2.2.2.1, (y.2.1.2.2.2.2.2.2.1, ()))))))), ()))).bind fun r0 =>
  bif (!r0.1.1) then no
  else (c163 ((y.1.2.2.2.2.2.2.2.1, (y.1.2.2.2.2.2.2.2.2.1, ())), ((y.2.1.2.2.2.2.2.2.2.1, (y.2.1.2.2.2.2.2.2.2.2.1, ())), ()))).bind fun r1 =>
  bif (!r1.1.1) then no
  else (c35 (y.1.2.2.2.2.2.2.2.2.2.1, y.2.1.2.2.2.2.2.2.2.2.2)).bind fun r2 =>
  bif (!r2.1.1) then no
  else some ((true, ()), ())
theorem s76 (c98 : F98) (c35 : F35) (c163 : F163) (y) : TE [g98 c98, g35 c35, g163 c163] Tryz.f76 i76 o76 y = m76 c98 c35 c163 y := by kernel_rfl
noncomputable def r76 : F76 := m76 r98 r35 r163 
theorem k76 : KO (g76 r76) := fk (s76 r98 r35 r163) ⟨k98, k35, k163, ⟨⟩⟩ (by kernel_rfl)
abbrev i19 : Ts := [.a q6, .a q6]
abbrev o19 : Ts := [.v (.bool)]
abbrev F19 := FT i19 o19
abbrev g19 := mkG 19 i19 o19
noncomputable def m19 (c73 : F73) (c71 : F71) (c35 : F35) (c72 : F72) (c74 : F74) (c75 : F75) (c76 : F76) (y : PTup i19) : Option (PTup o19 × BTup i19) :=
  let a0 := y.1; let a1 := y.2; let a2 := a0.2; let a3 := a1.1; let a4 := a2.2; let a5 := a3.2; let a6 := a4.2; let a7 := a5.2; let a8 := a6.2; let a9 := a7.2; let a10 := a8.2; let a11 := a9.2; let a12 := a10.2; let a13 := a11.2; let a14 := a12.2; let a15 := a13.2; let a16 := a14.2; let a17 := a15.2; let a18 := a16.2; let a19 := a17.2; let a20 := a18.2; let a21 := a19.2; let a22 := a20.2; let a23 := a21.2; let a24 := a22.2; let a25 := a23.2; let a26 := a24.2; let a27 := a25.2; let a28 := a26.2; let a29 := a27.2; let a30 := a28.2; let a31 := a29.2; let a32 := a30.2; let a33 := a31.2; let a34 := a32.2; let a35 := a33.2; let a36 := a34.2; let a37 := a35.2; let a38 := a36.2; let a39 := a37.2; let a40 := a38.2; let a41 := a39.2; let a42 := a40.2; let a43 := a41.2; let a44 := a42.2; let a45 := a43.2; let a46 := a44.2; let a47 := a45.2; let a48 := a47.2; let a49 := a46.2.2; let a50 := a48.2.2; let a51 := a49.2.2; let a52 := a50.2.2; (c71 ((a0.1, ()), ((a3.1, ()), ()))).bind fun r0 =>
  bif (!r0.1.1) then no
  else (c35 (a2.1, (a5.1, ()))).bind fun r1 =>
  bif (!r1.1.1) then no
  else (c72 ((a4.1, (a6.1, ())), ((a7.1, (a9.1, ())), ()))).bind fun r2 =>
  bif (!r2.1.1) then no
  else (c73 ((a8.1, (a10.1, (a12.1, (a14.1, (a16.1, (a18.1, (a20.1, (a22.1, ())))))))), ((a11.1, (a13.1, (a15.1, (a17.1, (a19.1, (a21.1, (a23.1, (a25.1, ())))))))), ()))).bind fun r3 =>
  bif (!r3.1.1) then no
  else (c74 ((a24.1, (a26.1, ())), ((a27.1, (a29.1, ())), ()))).bind fun r4 =>
  bif (!r4.1.1) then no
  else bif (neI a28.1 a31.1) then no
  else bif (!(a30.1 == a33.1)) then no
  else bif (neI a32.1 a35.1) then no
  else bif (!(a34.1 == a37.1)) then no
  else bif (neI a36.1 a39.1) then no
  else bif (neI a38.1 a41.1) then no
  else (c35 (a40.1, (a43.1, ()))).bind fun r5 =>
  bif (!r5.1.1) then no
  else (c75 ((a42.1, (a44.1, (a46.1, (a46.2.1, (a49.1, (a49.2.1, (a51.1, (a51.2.1, (a51.2.2.1, (a51.2.2.2.1, (a51.2.2.2.2.1, ()))))))))))), ((a45.1, (a47.1, (a48.1, (a48.2.1, (a50.1, (a50.2.1, (a52.1, (a52.2.1, (a52.2.2.1, (a52.2.2.2.1, (a52.2.2.2.2.1, ()))))))))))), ()))).bind fun r6 =>
  bif (!r6.1.1) then no
  else (c76 (a51.2.2.2.2.2, (a52.2.2.2.2.2, ()))).bind fun r7 =>
  bif (!r7.1.1) then no
  else some ((true, ()), ())
theorem s19 (c73 : F73) (c71 : F71) (c35 : F35) (c72 : F72) (c74 : F74) (c75 : F75) (c76 : F76) (y) : TE [g73 c73, g71 c71, g35 c35, g72 c72, g74 c74, g75 c75, g76 c76] Tryz.f19 i19 o19 y = m19 c73 c71 c35 c72 c74 c75 c76 y := by kernel_rfl
noncomputable def r19 : F19 := m19 r73 r71 r35 r72 r74 r75 r76 
theorem k19 : KO (g19 r19) := fk (s19 r73 r71 r35 r72 r74 r75 r76) ⟨k73, k71, k35, k72, k74, k75, k76, ⟨⟩⟩ (by kernel_rfl)
abbrev i87 : Ts := [.a q17]
abbrev o87 : Ts := [.v (.bool)]
abbrev F87 := FT i87 o87
abbrev g87 := mkG 87 i87 o87
noncomputable def m87 (c169 : F169) (c138 : F138) (c137 : F137) (c136 : F136) (c168 : F168) (c170 : F170) (c142 : F142) (c141 : F141) (y : PTup i87) : Option (PTup o87 × BTup i87) :=
  let a0 := y.1; let a1 := a0.2; let a2 := a1.2; let a3 := a2.2; let a4 := a3.2; let a5 := a4.2; let a6 := a5.2; let a7 := a6.2; let a8 := a7.2; let a9 := a8.2; let a10 := a9.2; let a11 := a10.2; let a12 := a11.2; let a13 := a12.2; let a14 := a13.2; let a15 := a14.2; let a16 := a15.2; let a17 := a16.2; let a18 := a17.2; let a19 := a18.2; let a20 := a19.2; let a21 := a20.2; let a22 := a21.2.2; let a23 := a22.2.2; let a24 := a23.2.2.2; (c136 (a1.1, ())).bind fun r0 =>
  bif r0.1.1 then ((c137 ((a0.1, ()), ((a2.1, (a3.1, ())), ()))).bind fun r1 =>
   bif r1.1.1 then ((c138 ((a4.1, (a5.1, (a6.1, (a7.1, (a8.1, (a9.1, (a10.1, (a11.1, ())))))))), ())).bind fun r2 =>
    bif r2.1.1 then ((c168 ((a12.1, (a13.1, (a14.1, (a15.1, (a16.1, (a17.1, (a18.1, (a19.1, ())))))))), ())).bind fun r3 =>
     bif r3.1.1 then ((c169 ((a20.1, (a21.1, (a21.2.1, (a22.1, (a22.2.1, (a23.1, (a23.2.1, ()))))))), ())).bind fun r4 =>
      bif r4.1.1 then ((c141 (a24.1, ())).bind fun r5 =>
       bif r5.1.1 then (bif (eqI a12.1 a20.1) then ((c142 (a24.2.2.1, ((0 : Int), (a12.1, ())))).bind fun r6 =>
         bif r6.1.1 then ((c170 (a24.2.2.2.1, (a12.1, ()))).bind fun r7 =>
          bif r7.1.1 then (some (((eqI (lenI a24.2.2.2.2.1) (wI (Int.tdiv a12.1 16))), ()), ()))
          else no)
         else no)
        else no)
       else no)
      else no)
     else no)
    else no)
   else no)
  else no
theorem s87 (c169 : F169) (c138 : F138) (c137 : F137) (c136 : F136) (c168 : F168) (c170 : F170) (c142 : F142) (c141 : F141) (y) : TE [g169 c169, g138 c138, g137 c137, g136 c136, g168 c168, g170 c170, g142 c142, g141 c141] Tryz.f87 i87 o87 y = m87 c169 c138 c137 c136 c168 c170 c142 c141 y := by kernel_rfl
noncomputable def r87 : F87 := m87 r169 r138 r137 r136 r168 r170 r142 r141 
theorem k87 : KO (g87 r87) := fk (s87 r169 r138 r137 r136 r168 r170 r142 r141) ⟨k169, k138, k137, k136, k168, k170, k142, k141, ⟨⟩⟩ (by kernel_rfl)
abbrev i88 : Ts := [.a q17]
abbrev o88 : Ts := [.a q18]
abbrev F88 := FT i88 o88
abbrev g88 := mkG 88 i88 o88
noncomputable def m88 (c132 : F132) (c172 : F172) (c133 : F133) (c171 : F171) (y : PTup i88) : Option (PTup o88 × BTup i88) :=
  let a0 := y.1; let a1 := a0.2; let a2 := a1.2; let a3 := a2.2; let a4 := a3.2; let a5 := a4.2; let a6 := a5.2; let a7 := a6.2; let a8 := a7.2; let a9 := a8.2; let a10 := a9.2; let a11 := a10.2; let a12 := a11.2; let a13 := a12.2; let a14 := a13.2; let a15 := a14.2; let a16 := a15.2; let a17 := a16.2; let a18 := a17.2; let a19 := a18.2; let a20 := a19.2; let a21 := a20.2; let a22 := a21.2; let a23 := a22.2; let a24 := a23.2; let a25 := a24.2; let a26 := a25.2; let a27 := a26.2.2; let a28 := a27.2.2; (c132 ((a0.1, ()), ())).bind fun r0 =>
  bif (leN (0 + (List.length a1.1)) (E.most .i)) then ((c133 ((a2.1, (a3.1, ())), ())).bind fun r1 =>
   (c171 ((a12.1, (a13.1, (a14.1, (a15.1, (a16.1, (a17.1, (a18.1, (a19.1, ())))))))), ())).bind fun r2 =>
   (c172 (a28.2.1, ())).bind fun r3 =>
   bif (leN (0 + (List.length a28.2.2.1)) (E.most .i)) then (bif (leN (0 + (List.length a28.2.2.2.1)) (E.most .i)) then (some (((r0.1.1.1, (([] ++ a1.1), (r1.1.1.1, (r1.1.1.2.1, (a4.1, (a5.1, (a6.1, (a7.1, (a8.1, (a9.1, (a10.1, (a11.1, (r2.1.1.1, (r2.1.1.2.1, (r2.1.1.2.2.1, (r2.1.1.2.2.2.1, (r2.1.1.2.2.2.2.1, (r2.1.1.2.2.2.2.2.1, (r2.1.1.2.2.2.2.2.2.1, (r2.1.1.2.2.2.2.2.2.2.1, (a20.1, (a21.1, (a22.1, (a23.1, (a24.1, (a25.1, (a26.1, (a26.2.1, (a27.1, (a27.2.1, (a28.1, (r3.1.1, (([] ++ a28.2.2.1), (([] ++ a28.2.2.2.1), ())))))))))))))))))))))))))))))))))), ()), ()))
    else none)
   else none)
  else none
theorem s88 (c132 : F132) (c172 : F172) (c133 : F133) (c171 : F171) (y) : TE [g132 c132, g172 c172, g133 c133, g171 c171] Tryz.f88 i88 o88 y = m88 c132 c172 c133 c171 y := by kernel_rfl
noncomputable def r88 : F88 := m88 r132 r172 r133 r171 
theorem k88 : KO (g88 r88) := fk (s88 r132 r172 r133 r171) ⟨k132, k172, k133, k171, ⟨⟩⟩ (by kernel_rfl)
abbrev i89 : Ts := [.v (.int .i64), .v (.int .i64)]
abbrev o89 : Ts := [.v (.int .i64)]
abbrev F89 := FT i89 o89
abbrev g89 := mkG 89 i89 o89
noncomputable def m89 (y : PTup i89) : Option (PTup o89 × BTup i89) :=
  bif (ltI y.1 y.2.1) then (some ((y.1, ()), ()))
  else some (y.2, ())
theorem s89 (y) : TE [] Tryz.f89 i89 o89 y = m89 y := by kernel_rfl
noncomputable def r89 : F89 := m89 
theorem k89 : KO (g89 r89) := fk (s89 ) trivial (by kernel_rfl)
abbrev i114 : Ts := [.v (.bool)]
abbrev o114 : Ts := [.v (.int .i64)]
abbrev F114 := FT i114 o114
abbrev g114 := mkG 114 i114 o114
noncomputable def m114 (y : PTup i114) : Option (PTup o114 × BTup i114) :=
  bif y.1 then (some (((1 : Int), ()), ()))
  else some (((0 : Int), ()), ())
theorem s114 (y) : TE [] Tryz.f114 i114 o114 y = m114 y := by kernel_rfl
noncomputable def r114 : F114 := m114 
theorem k114 : KO (g114 r114) := fk (s114 ) trivial (by kernel_rfl)
abbrev i263 : Ts := [.a q8]
abbrev o263 : Ts := [.v (.int .i64)]
abbrev F263 := FT i263 o263
abbrev g263 := mkG 263 i263 o263
noncomputable def m263 (c114 : F114) (y : PTup i263) : Option (PTup o263 × BTup i263) :=
  (c114 (y.1.2.2.2.2.2.2.1, ())).bind fun r0 =>
  (c114 (y.1.2.2.2.2.1, ())).bind fun r1 =>
  (c114 y.1.2.2.2.2.2.2.2).bind fun r2 =>
  (c114 (y.1.2.2.2.2.2.1, ())).bind fun r3 =>
  some (((wI ((wI ((wI (r0.1.1 + (wI ((2 : Int) * r1.1.1)))) + (wI ((4 : Int) * r2.1.1)))) + (wI ((128 : Int) * r3.1.1)))), ()), ())
theorem s263 (c114 : F114) (y) : TE [g114 c114] Tryz.f263 i263 o263 y = m263 c114 y := by kernel_rfl
noncomputable def r263 : F263 := m263 r114 
theorem k263 : KO (g263 r263) := fk (s263 r114) ⟨k114, ⟨⟩⟩ (by kernel_rfl)
abbrev i264 : Ts := [.a q1, .a q8, .v (.int .i64)]
abbrev o264 : Ts := [.a q7, .a q8]
abbrev F264 := FT i264 o264
abbrev g264 := mkG 264 i264 o264
noncomputable def m264 (c262 : F262) (c133 : F133) (y : PTup i264) : Option (PTup o264 × BTup i264) :=
  (c133 (y.1, ())).bind fun r0 =>
  bif (neI (lenI y.1.1) 512) then (some ((r0.1.1, (y.2.1, ())), ()))
  else (c262 (y.2.1.2.2.1, ())).bind fun r1 =>
  (c262 y.2.2).bind fun r2 =>
  bif (leI 0 (wI ((256 : Int) + r1.1.1))) then (bif (ltI (wI ((256 : Int) + r1.1.1)) (lenI r0.1.1.1)) then ((c262 ((wI (y.2.1.2.2.1 - 1)), ())).bind fun r3 =>
    some ((((List.set r0.1.1.1 (Int.toNat (wI ((256 : Int) + r1.1.1))) r2.1.1), r0.1.1.2), ((y.2.1.1, (y.2.1.2.1, (r3.1.1, y.2.1.2.2.2))), ())), ()))
   else none)
  else none
theorem s264 (c262 : F262) (c133 : F133) (y) : TE [g262 c262, g133 c133] Tryz.f264 i264 o264 y = m264 c262 c133 y := by kernel_rfl
noncomputable def r264 : F264 := m264 r262 r133 
theorem k264 : KO (g264 r264) := fk (s264 r262 r133) ⟨k262, k133, ⟨⟩⟩ (by kernel_rfl)
abbrev i261 : Ts := [.v (.int .i64)]
abbrev o261 : Ts := [.v (.int .i64)]
abbrev F261 := FT i261 o261
abbrev g261 := mkG 261 i261 o261
noncomputable def m261 (y : PTup i261) : Option (PTup o261 × BTup i261) :=
  some (((bAnd Go.IntKind.i64 y.1 (65535 : Int)), ()), ())
theorem s261 (y) : TE [] Tryz.f261 i261 o261 y = m261 y := by kernel_rfl
noncomputable def r261 : F261 := m261 
theorem k261 : KO (g261 r261) := fk (s261 ) trivial (by kernel_rfl)
abbrev i191 : Ts := [.v (.int .i64)]
abbrev o191 : Ts := [.v (.int .i64), .v (.int .i64)]
abbrev F191 := FT i191 o191
abbrev g191 := mkG 191 i191 o191
noncomputable def m191 (c261 : F261) (y : PTup i191) : Option (PTup o191 × BTup i191) :=
  (c261 y).bind fun r0 =>
  bif (ltI r0.1.1 8192) then (some (((1 : Int), ((Int.tmod r0.1.1 512), ())), ()))
  else bif (ltI r0.1.1 16384) then (some (((2 : Int), ((Int.tmod r0.1.1 8), ())), ()))
  else bif (ltI r0.1.1 16388) then (some (((3 : Int), ((Int.tmod r0.1.1 4), ())), ()))
  else bif (eqI r0.1.1 16406) then (some (((4 : Int), ((0 : Int), ())), ()))
  else bif (ltI r0.1.1 32768) then (some (((7 : Int), ((0 : Int), ())), ()))
  else bif (ltI r0.1.1 49152) then (some (((5 : Int), ((Int.tmod r0.1.1 256), ())), ()))
  else some (((6 : Int), ((Int.tmod r0.1.1 256), ())), ())
theorem s191 (c261 : F261) (y) : TE [g261 c261] Tryz.f191 i191 o191 y = m191 c261 y := by kernel_rfl
noncomputable def r191 : F191 := m191 r261 
theorem k191 : KO (g191 r191) := fk (s191 r261) ⟨k261, ⟨⟩⟩ (by kernel_rfl)
abbrev i268 : Ts := [.a q0, .a q1, .v (.int .i64)]
abbrev o268 : Ts := [.v (.int .i64)]
abbrev F268 := FT i268 o268
abbrev g268 := mkG 268 i268 o268
noncomputable def m268 (c191 : F191) (y : PTup i268) : Option (PTup o268 × BTup i268) :=
  (c191 y.2.2).bind fun r0 =>
  bif (eqI r0.1.1 1) then (bif (leI 0 r0.1.2.1) then (bif (ltI r0.1.2.1 (lenI y.2.1.1)) then (some (((rdE .i y.2.1.1 r0.1.2.1), ()), ()))
    else none)
   else none)
  else bif (eqI r0.1.1 5) then (bif (leI 0 y.2.1.2.1) then (bif (ltI y.2.1.2.1 (lenI y.1.1)) then (bif (leI 0 r0.1.2.1) then (bif (ltI r0.1.2.1 (lenI (rdE .n y.1.1 y.2.1.2.1))) then (some (((rdI (rdE .n y.1.1 y.2.1.2.1) r0.1.2.1), ()), ()))
      else none)
     else none)
    else none)
   else none)
  else bif (eqI r0.1.1 6) then (bif (leI 0 (wI ((lenI y.1.1) - 1))) then (bif (ltI (wI ((lenI y.1.1) - 1)) (lenI y.1.1)) then (bif (leI 0 r0.1.2.1) then (bif (ltI r0.1.2.1 (lenI (rdE .n y.1.1 (wI ((lenI y.1.1) - 1))))) then (some (((rdI (rdE .n y.1.1 (wI ((lenI y.1.1) - 1))) r0.1.2.1), ()), ()))
      else none)
     else none)
    else none)
   else none)
  else some (((0 : Int), ()), ())
theorem s268 (c191 : F191) (y) : TE [g191 c191] Tryz.f268 i268 o268 y = m268 c191 y := by kernel_rfl
noncomputable def r268 : F268 := m268 r191 
theorem k268 : KO (g268 r268) := fk (s268 r191) ⟨k191, ⟨⟩⟩ (by kernel_rfl)
abbrev i257 : Ts := [.a q0, .a q1, .v (.int .i64)]
abbrev o257 : Ts := [.v (.int .i64)]
abbrev F257 := FT i257 o257
abbrev g257 := mkG 257 i257 o257
noncomputable def m257 (c137 : F137) (c268 : F268) (y : PTup i257) : Option (PTup o257 × BTup i257) :=
  (c137 (y.1, (y.2.1, ()))).bind fun r0 =>
  bif (!r0.1.1) then (some (((0 : Int), ()), ()))
  else (c268 y).bind fun r1 =>
  some (r1.1, ())
theorem s257 (c137 : F137) (c268 : F268) (y) : TE [g137 c137, g268 c268] Tryz.f257 i257 o257 y = m257 c137 c268 y := by kernel_rfl
noncomputable def r257 : F257 := m257 r137 r268 
theorem k257 : KO (g257 r257) := fk (s257 r137 r268) ⟨k137, k268, ⟨⟩⟩ (by kernel_rfl)
abbrev i259 : Ts := [.v (.int .i64), .v (.int .i64)]
abbrev o259 : Ts := [.v (.int .i64)]
abbrev F259 := FT i259 o259
abbrev g259 := mkG 259 i259 o259
noncomputable def m259 (c262 : F262) (y : PTup i259) : Option (PTup o259 × BTup i259) :=
  (c262 (y.1, ())).bind fun r0 =>
  (c262 y.2).bind fun r1 =>
  some (((wI (r0.1.1 + (wI ((256 : Int) * r1.1.1)))), ()), ())
theorem s259 (c262 : F262) (y) : TE [g262 c262] Tryz.f259 i259 o259 y = m259 c262 y := by kernel_rfl
noncomputable def r259 : F259 := m259 r262 
theorem k259 : KO (g259 r259) := fk (s259 r262) ⟨k262, ⟨⟩⟩ (by kernel_rfl)
abbrev i194 : Ts := [.a q0, .a q1, .a q8, .v (.int .i64)]
abbrev o194 : Ts := [.a q7, .a q8]
abbrev F194 := FT i194 o194
abbrev g194 := mkG 194 i194 o194
noncomputable def m194 (c263 : F263) (c259 : F259) (c257 : F257) (c264 : F264) (c133 : F133) (y : PTup i194) : Option (PTup o194 × BTup i194) :=
  (c133 (y.2.1, ())).bind fun r0 =>
  (c263 (y.2.2.1, ())).bind fun r1 =>
  (c264 (r0.1.1, (y.2.2.1, ((Int.fdiv y.2.2.1.2.2.2.1 ((2 : Int) ^ (Min.min (Int.toNat (8 : Int)) (64 : Nat)))), ())))).bind fun r2 =>
  (c264 (r2.1.1, (r2.1.2.1, (r2.1.2.1.2.2.2.1, ())))).bind fun r3 =>
  (c264 (r3.1.1, (r3.1.2.1, r1.1))).bind fun r4 =>
  (c257 (y.1, (r4.1.1, y.2.2.2))).bind fun r5 =>
  (c257 (y.1, (r4.1.1, ((wI (y.2.2.2.1 + 1)), ())))).bind fun r6 =>
  (c259 (r5.1.1, r6.1)).bind fun r7 =>
  some ((r4.1.1, ((r4.1.2.1.1, (r4.1.2.1.2.1, (r4.1.2.1.2.2.1, (r7.1.1, (r4.1.2.1.2.2.2.2.1, (r4.1.2.1.2.2.2.2.2.1, (r4.1.2.1.2.2.2.2.2.2.1, (true, ())))))))), ())), ())
theorem s194 (c263 : F263) (c259 : F259) (c257 : F257) (c264 : F264) (c133 : F133) (y) : TE [g263 c263, g259 c259, g257 c257, g264 c264, g133 c133] Tryz.f194 i194 o194 y = m194 c263 c259 c257 c264 c133 y := by kernel_rfl
noncomputable def r194 : F194 := m194 r263 r259 r257 r264 r133 
theorem k194 : KO (g194 r194) := fk (s194 r263 r259 r257 r264 r133) ⟨k263, k259, k257, k264, k133, ⟨⟩⟩ (by kernel_rfl)
abbrev i258 : Ts := [.v (.int .i64)]
abbrev o258 : Ts := [.v (.int .i64)]
abbrev F258 := FT i258 o258
abbrev g258 := mkG 258 i258 o258
noncomputable def m258 (c142 : F142) (y : PTup i258) : Option (PTup o258 × BTup i258) :=
  (c142 (y.1, ((0 : Int), ((29 : Int), ())))).bind fun r0 =>
  bif (!r0.1.1) then (some (((1 : Int), ()), ()))
  else bif (leI 0 y.1) then (bif (ltI y.1 (lenI ((1 : Int) :: ((2 : Int) :: ((3 : Int) :: ((3 : Int) :: ((2 : Int) :: ((2 : Int) :: ((2 : Int) :: ((2 : Int) :: ((2 : Int) :: ((2 : Int) :: ((1 : Int) :: ((1 : Int) :: ((1 : Int) :: ((1 : Int) :: ((3 : Int) :: ((3 : Int) :: ((3 : Int) :: ((3 : Int) :: ((3 : Int) :: ((3 : Int) :: ((3 : Int) :: ((1 : Int) :: ((1 : Int) :: ((1 : Int) :: ((1 : Int) :: ((1 : Int) :: ((1 : Int) :: ((1 : Int) :: ((1 : Int) :: ((3 : Int) :: [])))))))))))))))))))))))))))))))) then (some (((rdE .i ((1 : Int) :: ((2 : Int) :: ((3 : Int) :: ((3 : Int) :: ((2 : Int) :: ((2 : Int) :: ((2 : Int) :: ((2 : Int) :: ((2 : Int) :: ((2 : Int) :: ((1 : Int) :: ((1 : Int) :: ((1 : Int) :: ((1 : Int) :: ((3 : Int) :: ((3 : Int) :: ((3 : Int) :: ((3 : Int) :: ((3 : Int) :: ((3 : Int) :: ((3 : Int) :: ((1 : Int) :: ((1 : Int) :: ((1 : Int) :: ((1 : Int) :: ((1 : Int) :: ((1 : Int) :: ((1 : Int) :: ((1 : Int) :: ((3 : Int) :: [])))))))))))))))))))))))))))))) y.1), ()), ()))
   else none)
  else none
theorem s258 (c142 : F142) (y) : TE [g142 c142] Tryz.f258 i258 o258 y = m258 c142 y := by kernel_rfl
noncomputable def r258 : F258 := m258 r142 
theorem k258 : KO (g258 r258) := fk (s258 r142) ⟨k142, ⟨⟩⟩ (by kernel_rfl)
abbrev i189 : Ts := [.a q0, .a q1, .v (.int .i64)]
abbrev o189 : Ts := [.a q19]
abbrev F189 := FT i189 o189
abbrev g189 := mkG 189 i189 o189
noncomputable def m189 (c259 : F259) (c258 : F258) (c257 : F257) (y : PTup i189) : Option (PTup o189 × BTup i189) :=
  (c257 y).bind fun r0 =>
  (c258 r0.1).bind fun r1 =>
  bif (eqI r1.1.1 2) then ((c257 (y.1, (y.2.1, ((wI (y.2.2.1 + 1)), ())))).bind fun r2 =>
   some (((r0.1.1, r2.1), ()), ()))
  else bif (eqI r1.1.1 3) then ((c257 (y.1, (y.2.1, ((wI (y.2.2.1 + 1)), ())))).bind fun r2 =>
   (c257 (y.1, (y.2.1, ((wI (y.2.2.1 + 2)), ())))).bind fun r3 =>
   (c259 (r2.1.1, r3.1)).bind fun r4 =>
   some (((r0.1.1, r4.1), ()), ()))
  else some (((r0.1.1, ((0 : Int), ())), ()), ())
theorem s189 (c259 : F259) (c258 : F258) (c257 : F257) (y) : TE [g259 c259, g258 c258, g257 c257] Tryz.f189 i189 o189 y = m189 c259 c258 c257 y := by kernel_rfl
noncomputable def r189 : F189 := m189 r259 r258 r257 
theorem k189 : KO (g189 r189) := fk (s189 r259 r258 r257) ⟨k259, k258, k257, ⟨⟩⟩ (by kernel_rfl)
abbrev i260 : Ts := [.v (.int .i64)]
abbrev o260 : Ts := [.v (.int .i64)]
abbrev R260 := Option (PTup o260 × BTup i260)
abbrev F260 := PTup i260 → R260
abbrev g260 := mkG 260 i260 o260
noncomputable def m260 (y : PTup i260) : R260 :=
  let X0 : R260 := bif (eqI y.1 3) then (bif (eqI y.1 3) then (some (((2 : Int), ()), ())) else some (((0 : Int), ()), ())) else bif (eqI y.1 15) then (some (((2 : Int), ()), ())) else some (((0 : Int), ()), ()); bif (eqI y.1 2) then (bif (eqI y.1 2) then (some (((1 : Int), ()), ())) else X0) else bif (eqI y.1 14) then (bif (eqI y.1 14) then (some (((1 : Int), ()), ())) else X0) else bif (eqI y.1 29) then (some (((1 : Int), ()), ())) else X0
theorem s260 (y) : TE [] Tryz.f260 i260 o260 y = m260 y := by kernel_rfl
noncomputable def r260 : F260 := m260 
theorem k260 : KO (g260 r260) := fk (s260 ) trivial (by kernel_rfl)
abbrev i190 : Ts := [.a q19, .a q8]
abbrev o190 : Ts := [.v (.int .i64), .v (.int .i64), .v (.int .i64)]
abbrev R190 := Option (PTup o190 × BTup i190)
abbrev F190 := PTup i190 → R190
abbrev g190 := mkG 190 i190 o190
noncomputable def m190 (c261 : F261) (c262 : F262) (c260 : F260) (y : PTup i190) : R190 :=
  (c260 (y.1.1, ())).bind fun r0 => let X0 : R190 := bif (eqI r0.1.1 1) then ((c261 ((wI (y.1.2.1 + y.2.1.2.1)), ())).bind fun r1 => some ((r0.1.1, (r1.1.1, ((0 : Int), ()))), ())) else (c261 ((wI (y.1.2.1 + y.2.1.2.1)), ())).bind fun r1 => (c262 (y.2.1.1, ())).bind fun r2 => some ((r0.1.1, (r1.1.1, r2.1)), ()); bif (eqI r0.1.1 0) then (some (((0 : Int), ((0 : Int), ((0 : Int), ()))), ())) else bif (eqI y.1.1 14) then X0 else bif (eqI y.1.1 15) then X0 else bif (eqI r0.1.1 1) then ((c261 y.1.2).bind fun r1 => some ((r0.1.1, (r1.1.1, ((0 : Int), ()))), ())) else (c261 y.1.2).bind fun r1 => (c262 (y.2.1.1, ())).bind fun r2 => some ((r0.1.1, (r1.1.1, r2.1)), ())
theorem s190 (c261 : F261) (c262 : F262) (c260 : F260) (y) : TE [g261 c261, g262 c262, g260 c260] Tryz.f190 i190 o190 y = m190 c261 c262 c260 y := by kernel_rfl
noncomputable def r190 : F190 := m190 r261 r262 r260 
theorem k190 : KO (g190 r190) := fk (s190 r261 r262 r260) ⟨k261, k262, k260, ⟨⟩⟩ (by kernel_rfl)
abbrev i265 : Ts := [.a q2, .v (.int .i64)]
abbrev o265 : Ts := [.a q10, .v (.int .i64)]
abbrev F265 := FT i265 o265
abbrev g265 := mkG 265 i265 o265
noncomputable def m265 (c168 : F168) (c114 : F114) (c171 : F171) (y : PTup i265) : Option (PTup o265 × BTup i265) :=
  (c171 (y.1, ())).bind fun r0 =>
  (c168 (y.1, ())).bind fun r1 =>
  bif (!r1.1.1) then (some ((r0.1.1, ((0 : Int), ())), ()))
  else bif (eqI y.2.1 2) then ((c114 (y.1.2.2.2.2.2.1, ())).bind fun r2 =>
   some (((r0.1.1.1, (r0.1.1.2.1, (r0.1.1.2.2.1, (r0.1.1.2.2.2.1, (r0.1.1.2.2.2.2.1, (false, r0.1.1.2.2.2.2.2.2)))))), ((wI ((128 : Int) * r2.1.1)), ())), ()))
  else bif (eqI y.2.1 4) then (bif (leI 0 y.1.2.2.2.1) then (bif (ltI y.1.2.2.2.1 (lenI y.1.2.2.2.2.2.2.1)) then (some (((r0.1.1.1, (r0.1.1.2.1, (r0.1.1.2.2.1, ((Int.tmod (wI (y.1.2.2.2.1 + 1)) (16 : Int)), r0.1.1.2.2.2.2)))), ((rdE .i y.1.2.2.2.2.2.2.1 y.1.2.2.2.1), ())), ()))
    else none)
   else none)
  else some ((r0.1.1, ((0 : Int), ())), ())
theorem s265 (c168 : F168) (c114 : F114) (c171 : F171) (y) : TE [g168 c168, g114 c114, g171 c171] Tryz.f265 i265 o265 y = m265 c168 c114 c171 y := by kernel_rfl
noncomputable def r265 : F265 := m265 r168 r114 r171 
theorem k265 : KO (g265 r265) := fk (s265 r168 r114 r171) ⟨k168, k114, k171, ⟨⟩⟩ (by kernel_rfl)
abbrev i266 : Ts := [.a q14, .v (.int .i64)]
abbrev o266 : Ts := [.a q14, .v (.int .i64)]
abbrev F266 := FT i266 o266
abbrev g266 := mkG 266 i266 o266
noncomputable def m266 (c169 : F169) (c114 : F114) (y : PTup i266) : Option (PTup o266 × BTup i266) :=
  (c169 (y.1, ())).bind fun r0 =>
  bif (!r0.1.1) then (some ((y.1, ((0 : Int), ())), ()))
  else bif (neI y.2.1 2) then (some ((y.1, ((0 : Int), ())), ()))
  else (c114 y.1.2.2.2.2.2.2).bind fun r1 =>
  (c114 ((ltI 0 y.1.2.2.2.2.1), ())).bind fun r2 =>
  some (((y.1.1, (y.1.2.1, (y.1.2.2.1, (y.1.2.2.2.1, (y.1.2.2.2.2.1, (y.1.2.2.2.2.2.1, (false, ()))))))), ((wI ((wI ((128 : Int) * r1.1.1)) + r2.1.1)), ())), ())
theorem s266 (c169 : F169) (c114 : F114) (y) : TE [g169 c169, g114 c114] Tryz.f266 i266 o266 y = m266 c169 c114 y := by kernel_rfl
noncomputable def r266 : F266 := m266 r169 r114 
theorem k266 : KO (g266 r266) := fk (s266 r169 r114) ⟨k169, k114, ⟨⟩⟩ (by kernel_rfl)
abbrev i116 : Ts := [.v (.int .i64), .v (.int .i64)]
abbrev o116 : Ts := [.v (.int .i64)]
abbrev F116 := FT i116 o116
abbrev g116 := mkG 116 i116 o116
noncomputable def m116 (y : PTup i116) : Option (PTup o116 × BTup i116) :=
  bif (ltI y.2.1 y.1) then (some ((y.1, ()), ()))
  else some (y.2, ())
theorem s116 (y) : TE [] Tryz.f116 i116 o116 y = m116 y := by kernel_rfl
noncomputable def r116 : F116 := m116 
theorem k116 : KO (g116 r116) := fk (s116 ) trivial (by kernel_rfl)
abbrev i326 : Ts := [.v (.int .i64)]
abbrev o326 : Ts := [.v (.int .i64)]
abbrev F326 := FT i326 o326
abbrev g326 := mkG 326 i326 o326
noncomputable def m326 (c116 : F116) (y : PTup i326) : Option (PTup o326 × BTup i326) :=
  (c116 (y.1, ((0 : Int), ()))).bind fun r0 =>
  some (((wI (Int.tdiv r0.1.1 64)), ()), ())
theorem s326 (c116 : F116) (y) : TE [g116 c116] Tryz.f326 i326 o326 y = m326 c116 y := by kernel_rfl
noncomputable def r326 : F326 := m326 r116 
theorem k326 : KO (g326 r326) := fk (s326 r116) ⟨k116, ⟨⟩⟩ (by kernel_rfl)
abbrev i309 : Ts := [.v (.sl false .i), .v (.int .i64)]
abbrev o309 : Ts := [.v (.int .i64)]
abbrev F309 := FT i309 o309
abbrev g309 := mkG 309 i309 o309
noncomputable def m309 (c326 : F326) (c136 : F136) (y : PTup i309) : Option (PTup o309 × BTup i309) :=
  (c136 (y.1, ())).bind fun r0 =>
  bif (!r0.1.1) then (some (((0 : Int), ()), ()))
  else bif (eqI (lenI y.1) 0) then (some (((0 : Int), ()), ()))
  else (c326 y.2).bind fun r1 =>
  bif (neI (lenI y.1) 0) then (bif (leI 0 (Int.tmod r1.1.1 (lenI y.1))) then (bif (ltI (Int.tmod r1.1.1 (lenI y.1)) (lenI y.1)) then (some (((rdE .i y.1 (Int.tmod r1.1.1 (lenI y.1))), ()), ()))
    else none)
   else none)
  else none
theorem s309 (c326 : F326) (c136 : F136) (y) : TE [g326 c326, g136 c136] Tryz.f309 i309 o309 y = m309 c326 c136 y := by kernel_rfl
noncomputable def r309 : F309 := m309 r326 r136 
theorem k309 : KO (g309 r309) := fk (s309 r326 r136) ⟨k326, k136, ⟨⟩⟩ (by kernel_rfl)
abbrev i267 : Ts := [.a q9, .v (.sl false .i), .v (.int .i64)]
abbrev o267 : Ts := [.a q9, .v (.int .i64)]
abbrev F267 := FT i267 o267
abbrev g267 := mkG 267 i267 o267
noncomputable def m267 (c309 : F309) (y : PTup i267) : Option (PTup o267 × BTup i267) :=
  bif y.1.1 then ((c309 y.2).bind fun r0 =>
   some (((y.1.1, r0.1), ((bAnd Go.IntKind.i64 r0.1.1 (1 : Int)), ())), ()))
  else some (((y.1.1, ((Int.fdiv y.1.2.1 ((2 : Int) ^ (Min.min (Int.toNat (1 : Int)) (64 : Nat)))), ())), ((bAnd Go.IntKind.i64 y.1.2.1 (1 : Int)), ())), ())
theorem s267 (c309 : F309) (y) : TE [g309 c309] Tryz.f267 i267 o267 y = m267 c309 y := by kernel_rfl
noncomputable def r267 : F267 := m267 r309 
theorem k267 : KO (g267 r267) := fk (s267 r309) ⟨k309, ⟨⟩⟩ (by kernel_rfl)
abbrev i292 : Ts := [.a q18, .v (.int .i64)]
abbrev o292 : Ts := [.a q18, .v (.int .i64)]
abbrev F292 := FT i292 o292
abbrev g292 := mkG 292 i292 o292
noncomputable def m292 (c266 : F266) (c267 : F267) (c265 : F265) (c191 : F191) (c268 : F268) (y : PTup i292) : Option (PTup o292 × BTup i292) :=
  let a0 := y.1; let a1 := a0.2; let a2 := a1.2; let a3 := a2.2; let a4 := a3.2; let a5 := a4.2; let a6 := a5.2; let a7 := a6.2; let a8 := a7.2; let a9 := a8.2; let a10 := a9.2; let a11 := a10.2; let a12 := a11.2; let a13 := a12.2; let a14 := a13.2; let a15 := a14.2; let a16 := a15.2; let a17 := a16.2; let a18 := a17.2; let a19 := a18.2; let a20 := a19.2; let a21 := a20.2; let a22 := a21.2; let a23 := a22.2; let a24 := a23.2; let a25 := a24.2; let a26 := a25.2; let a27 := a26.2; let a28 := a27.2; let a29 := a28.2; let a30 := a29.2; let a31 := a30.2; let a32 := a31.2.2; (c191 y.2).bind fun r0 =>
  bif (eqI r0.1.1 2) then ((c265 ((a12.1, (a13.1, (a14.1, (a15.1, (a16.1, (a17.1, (a18.1, (a19.1, ())))))))), r0.1.2)).bind fun r1 =>
   bif (leN ((List.length a32.1) + (List.length (r1.1.2.1 :: []))) (E.most .i)) then (some (((a0.1, (a1.1, (a2.1, (a3.1, (a4.1, (a5.1, (a6.1, (a7.1, (a8.1, (a9.1, (a10.1, (a11.1, (r1.1.1.1, (r1.1.1.2.1, (r1.1.1.2.2.1, (r1.1.1.2.2.2.1, (r1.1.1.2.2.2.2.1, (r1.1.1.2.2.2.2.2.1, (r1.1.1.2.2.2.2.2.2.1, (r1.1.1.2.2.2.2.2.2.2.1, (a20.1, (a21.1, (a22.1, (a23.1, (a24.1, (a25.1, (a26.1, (a27.1, (a28.1, (a29.1, (a30.1, (a31.1, (a31.2.1, ((a32.1 ++ (r1.1.2.1 :: [])), ())))))))))))))))))))))))))))))))))), r1.1.2), ()))
   else none)
  else bif (eqI r0.1.1 3) then ((c266 ((a20.1, (a21.1, (a22.1, (a23.1, (a24.1, (a25.1, (a26.1, ()))))))), r0.1.2)).bind fun r1 =>
   bif (leN ((List.length a32.1) + (List.length (r1.1.2.1 :: []))) (E.most .i)) then (some (((a0.1, (a1.1, (a2.1, (a3.1, (a4.1, (a5.1, (a6.1, (a7.1, (a8.1, (a9.1, (a10.1, (a11.1, (a12.1, (a13.1, (a14.1, (a15.1, (a16.1, (a17.1, (a18.1, (a19.1, (r1.1.1.1, (r1.1.1.2.1, (r1.1.1.2.2.1, (r1.1.1.2.2.2.1, (r1.1.1.2.2.2.2.1, (r1.1.1.2.2.2.2.2.1, (r1.1.1.2.2.2.2.2.2.1, (a27.1, (a28.1, (a29.1, (a30.1, (a31.1, (a31.2.1, ((a32.1 ++ (r1.1.2.1 :: [])), ())))))))))))))))))))))))))))))))))), r1.1.2), ()))
   else none)
  else bif (eqI r0.1.1 4) then ((c267 ((a27.1, (a28.1, ())), (a1.1, (a12.1, ())))).bind fun r1 =>
   bif (leN ((List.length a32.1) + (List.length (r1.1.2.1 :: []))) (E.most .i)) then (some (((a0.1, (a1.1, (a2.1, (a3.1, (a4.1, (a5.1, (a6.1, (a7.1, (a8.1, (a9.1, (a10.1, (a11.1, (a12.1, (a13.1, (a14.1, (a15.1, (a16.1, (a17.1, (a18.1, (a19.1, (a20.1, (a21.1, (a22.1, (a23.1, (a24.1, (a25.1, (a26.1, (r1.1.1.1, (r1.1.1.2.1, (a29.1, (a30.1, (a31.1, (a31.2.1, ((a32.1 ++ (r1.1.2.1 :: [])), ())))))))))))))))))))))))))))))))))), r1.1.2), ()))
   else none)
  else (c268 ((a0.1, ()), ((a2.1, (a3.1, ())), y.2))).bind fun r1 =>
  some ((a0, r1.1), ())
theorem s292 (c266 : F266) (c267 : F267) (c265 : F265) (c191 : F191) (c268 : F268) (y) : TE [g266 c266, g267 c267, g265 c265, g191 c191, g268 c268] Tryz.f292 i292 o292 y = m292 c266 c267 c265 c191 c268 y := by kernel_rfl
noncomputable def r292 : F292 := m292 r266 r267 r265 r191 r268 
theorem k292 : KO (g292 r292) := fk (s292 r266 r267 r265 r191 r268) ⟨k266, k267, k265, k191, k268, ⟨⟩⟩ (by kernel_rfl)
abbrev i269 : Ts := [.a q9, .v (.sl false .i), .v (.int .i64), .v (.int .i64)]
abbrev o269 : Ts := [.a q9]
abbrev F269 := FT i269 o269
abbrev g269 := mkG 269 i269 o269
noncomputable def m269 (c309 : F309) (y : PTup i269) : Option (PTup o269 × BTup i269) :=
  bif y.1.1 then ((c309 (y.2.1, (y.2.2.1, ()))).bind fun r0 =>
   some ((((eqI (bAnd Go.IntKind.i64 y.2.2.2.1 (1 : Int)) (1 : Int)), r0.1), ()), ()))
  else bif (eqI (bAnd Go.IntKind.i64 y.2.2.2.1 (1 : Int)) (1 : Int)) then ((c309 (y.2.1, (y.2.2.1, ()))).bind fun r0 =>
   some ((((eqI (bAnd Go.IntKind.i64 y.2.2.2.1 (1 : Int)) (1 : Int)), r0.1), ()), ()))
  else some ((((eqI (bAnd Go.IntKind.i64 y.2.2.2.1 (1 : Int)) (1 : Int)), y.1.2), ()), ())
theorem s269 (c309 : F309) (y) : TE [g309 c309] Tryz.f269 i269 o269 y = m269 c309 y := by kernel_rfl
noncomputable def r269 : F269 := m269 r309 
theorem k269 : KO (g269 r269) := fk (s269 r309) ⟨k309, ⟨⟩⟩ (by kernel_rfl)
abbrev i270 : Ts := [.a q0, .a q1, .v (.int .i64), .v (.int .i64)]
abbrev o270 : Ts := [.a q7]
abbrev R270 := Option (PTup o270 × BTup i270)
abbrev F270 := PTup i270 → R270
abbrev g270 := mkG 270 i270 o270
noncomputable def m270 (c262 : F262) (c137 : F137) (c191 : F191) (c133 : F133) (y : PTup i270) : R270 :=
  (c133 (y.2.1, ())).bind fun r0 => let X0 : R270 := (c262 y.2.2.2).bind fun r3 => bif (neI (lenI y.1.1) 0) then (some (((r0.1.1.1, ((Int.tmod r3.1.1 (lenI y.1.1)), ())), ()), ())) else none; (c137 (y.1, (y.2.1, ()))).bind fun r1 => bif (!r1.1.1) then (some ((r0.1.1, ()), ())) else (c191 (y.2.2.1, ())).bind fun r2 => bif (eqI r2.1.1 1) then ((c262 y.2.2.2).bind fun r3 => bif (leI 0 r2.1.2.1) then (bif (ltI r2.1.2.1 (lenI r0.1.1.1)) then (some ((((List.set r0.1.1.1 (Int.toNat r2.1.2.1) r3.1.1), r0.1.1.2), ()), ())) else none) else none) else bif (eqI r2.1.1 5) then (bif (eqI r2.1.1 5) then X0 else some ((r0.1.1, ()), ())) else bif (eqI r2.1.1 6) then X0 else some ((r0.1.1, ()), ())
theorem s270 (c262 : F262) (c137 : F137) (c191 : F191) (c133 : F133) (y) : TE [g262 c262, g137 c137, g191 c191, g133 c133] Tryz.f270 i270 o270 y = m270 c262 c137 c191 c133 y := by kernel_rfl
noncomputable def r270 : F270 := m270 r262 r137 r191 r133 
theorem k270 : KO (g270 r270) := fk (s270 r262 r137 r191 r133) ⟨k262, k137, k191, k133, ⟨⟩⟩ (by kernel_rfl)
abbrev i293 : Ts := [.a q18, .v (.int .i64), .v (.int .i64)]
abbrev o293 : Ts := [.a q18]
abbrev F293 := FT i293 o293
abbrev g293 := mkG 293 i293 o293
noncomputable def m293 (c215 : F215) (c269 : F269) (c270 : F270) (c213 : F213) (c191 : F191) (y : PTup i293) : Option (PTup o293 × BTup i293) :=
  let a0 := y.1; let a1 := a0.2; let a2 := a1.2; let a3 := a2.2; let a4 := a3.2; let a5 := a4.2; let a6 := a5.2; let a7 := a6.2; let a8 := a7.2; let a9 := a8.2; let a10 := a9.2; let a11 := a10.2; let a12 := a11.2; let a13 := a12.2; let a14 := a13.2; let a15 := a14.2; let a16 := a15.2; let a17 := a16.2; let a18 := a17.2; let a19 := a18.2; let a20 := a19.2; let a21 := a20.2; let a22 := a21.2; let a23 := a22.2; let a24 := a23.2; let a25 := a24.2.2; (c191 (y.2.1, ())).bind fun r0 =>
  bif (eqI r0.1.1 2) then ((c213 ((a12.1, (a13.1, (a14.1, (a15.1, (a16.1, (a17.1, (a18.1, (a19.1, ())))))))), (r0.1.2.1, y.2.2))).bind fun r1 =>
   some (((a0.1, (a1.1, (a2.1, (a3.1, (a4.1, (a5.1, (a6.1, (a7.1, (a8.1, (a9.1, (a10.1, (a11.1, (r1.1.1.1, (r1.1.1.2.1, (r1.1.1.2.2.1, (r1.1.1.2.2.2.1, (r1.1.1.2.2.2.2.1, (r1.1.1.2.2.2.2.2.1, (r1.1.1.2.2.2.2.2.2.1, (r1.1.1.2.2.2.2.2.2.2.1, a20)))))))))))))))))))), ()), ()))
  else bif (eqI r0.1.1 3) then ((c215 ((a20.1, (a21.1, (a22.1, (a23.1, (a24.1, (a24.2.1, (a25.1, ()))))))), (r0.1.2.1, y.2.2))).bind fun r1 =>
   some (((a0.1, (a1.1, (a2.1, (a3.1, (a4.1, (a5.1, (a6.1, (a7.1, (a8.1, (a9.1, (a10.1, (a11.1, (a12.1, (a13.1, (a14.1, (a15.1, (a16.1, (a17.1, (a18.1, (a19.1, (r1.1.1.1, (r1.1.1.2.1, (r1.1.1.2.2.1, (r1.1.1.2.2.2.1, (r1.1.1.2.2.2.2.1, (r1.1.1.2.2.2.2.2.1, (r1.1.1.2.2.2.2.2.2.1, a25.2))))))))))))))))))))))))))), ()), ()))
  else bif (eqI r0.1.1 4) then ((c269 ((a25.2.1, (a25.2.2.1, ())), (a1.1, (a12.1, y.2.2)))).bind fun r1 =>
   some (((a0.1, (a1.1, (a2.1, (a3.1, (a4.1, (a5.1, (a6.1, (a7.1, (a8.1, (a9.1, (a10.1, (a11.1, (a12.1, (a13.1, (a14.1, (a15.1, (a16.1, (a17.1, (a18.1, (a19.1, (a20.1, (a21.1, (a22.1, (a23.1, (a24.1, (a24.2.1, (a25.1, (r1.1.1.1, (r1.1.1.2.1, a25.2.2.2))))))))))))))))))))))))))))), ()), ()))
  else (c270 ((a0.1, ()), ((a2.1, (a3.1, ())), y.2))).bind fun r1 =>
  some (((a0.1, (a1.1, (r1.1.1.1, (r1.1.1.2.1, a4)))), ()), ())
theorem s293 (c215 : F215) (c269 : F269) (c270 : F270) (c213 : F213) (c191 : F191) (y) : TE [g215 c215, g269 c269, g270 c270, g213 c213, g191 c191] Tryz.f293 i293 o293 y = m293 c215 c269 c270 c213 c191 y := by kernel_rfl
noncomputable def r293 : F293 := m293 r215 r269 r270 r213 r191 
theorem k293 : KO (g293 r293) := fk (s293 r215 r269 r270 r213 r191) ⟨k215, k269, k270, k213, k191, ⟨⟩⟩ (by kernel_rfl)
abbrev i312 : Ts := [.v (.int .i64)]
abbrev o312 : Ts := [.v (.bool), .v (.bool)]
abbrev F312 := FT i312 o312
abbrev g312 := mkG 312 i312 o312
noncomputable def m312 (c262 : F262) (y : PTup i312) : Option (PTup o312 × BTup i312) :=
  (c262 y).bind fun r0 =>
  (c262 y).bind fun r1 =>
  some (((eqI r0.1.1 0), ((ltI 127 r1.1.1), ())), ())
theorem s312 (c262 : F262) (y) : TE [g262 c262] Tryz.f312 i312 o312 y = m312 c262 y := by kernel_rfl
noncomputable def r312 : F312 := m312 r262 
theorem k312 : KO (g312 r312) := fk (s312 r262) ⟨k262, ⟨⟩⟩ (by kernel_rfl)
abbrev i274 : Ts := [.a q8, .v (.int .i64)]
abbrev o274 : Ts := [.a q8]
abbrev F274 := FT i274 o274
abbrev g274 := mkG 274 i274 o274
noncomputable def m274 (c262 : F262) (c312 : F312) (y : PTup i274) : Option (PTup o274 × BTup i274) :=
  (c262 y.2).bind fun r0 =>
  (c312 y.2).bind fun r1 =>
  some (((r0.1.1, (y.1.2.1, (y.1.2.2.1, (y.1.2.2.2.1, (r1.1.1, (r1.1.2.1, y.1.2.2.2.2.2.2)))))), ()), ())
theorem s274 (c262 : F262) (c312 : F312) (y) : TE [g262 c262, g312 c312] Tryz.f274 i274 o274 y = m274 c262 c312 y := by kernel_rfl
noncomputable def r274 : F274 := m274 r262 r312 
theorem k274 : KO (g274 r274) := fk (s274 r262 r312) ⟨k262, k312, ⟨⟩⟩ (by kernel_rfl)
abbrev i327 : Ts := [.v (.int .i64), .v (.int .i64), .v (.bool)]
abbrev o327 : Ts := [.v (.int .i64), .v (.bool)]
abbrev F327 := FT i327 o327
abbrev g327 := mkG 327 i327 o327
noncomputable def m327 (c262 : F262) (c114 : F114) (y : PTup i327) : Option (PTup o327 × BTup i327) :=
  (c262 (y.1, ())).bind fun r0 =>
  (c262 (y.2.1, ())).bind fun r1 =>
  (c114 y.2.2).bind fun r2 =>
  (c262 ((wI ((wI (r0.1.1 + r1.1.1)) + r2.1.1)), ())).bind fun r3 =>
  some ((r3.1.1, ((ltI 255 (wI ((wI (r0.1.1 + r1.1.1)) + r2.1.1))), ())), ())
theorem s327 (c262 : F262) (c114 : F114) (y) : TE [g262 c262, g114 c114] Tryz.f327 i327 o327 y = m327 c262 c114 y := by kernel_rfl
noncomputable def r327 : F327 := m327 r262 r114 
theorem k327 : KO (g327 r327) := fk (s327 r262 r114) ⟨k262, k114, ⟨⟩⟩ (by kernel_rfl)
abbrev i310 : Ts := [.a q8, .v (.int .i64)]
abbrev o310 : Ts := [.a q8]
abbrev F310 := FT i310 o310
abbrev g310 := mkG 310 i310 o310
noncomputable def m310 (c327 : F327) (c274 : F274) (y : PTup i310) : Option (PTup o310 × BTup i310) :=
  (c327 (y.1.1, (y.2.1, (y.1.2.2.2.2.2.2.1, ())))).bind fun r0 =>
  (c274 (y.1, (r0.1.1, ()))).bind fun r1 =>
  some (((r1.1.1.1, (r1.1.1.2.1, (r1.1.1.2.2.1, (r1.1.1.2.2.2.1, (r1.1.1.2.2.2.2.1, (r1.1.1.2.2.2.2.2.1, (r0.1.2.1, r1.1.1.2.2.2.2.2.2.2))))))), ()), ())
theorem s310 (c327 : F327) (c274 : F274) (y) : TE [g327 c327, g274 c274] Tryz.f310 i310 o310 y = m310 c327 c274 y := by kernel_rfl
noncomputable def r310 : F310 := m310 r327 r274 
theorem k310 : KO (g310 r310) := fk (s310 r327 r274) ⟨k327, k274, ⟨⟩⟩ (by kernel_rfl)
abbrev i311 : Ts := [.v (.int .i64), .v (.int .i64), .v (.bool)]
abbrev o311 : Ts := [.v (.int .i64), .v (.bool)]
abbrev F311 := FT i311 o311
abbrev g311 := mkG 311 i311 o311
noncomputable def m311 (c262 : F262) (c114 : F114) (y : PTup i311) : Option (PTup o311 × BTup i311) :=
  (c262 (y.1, ())).bind fun r0 =>
  (c262 (y.2.1, ())).bind fun r1 =>
  (c114 y.2.2).bind fun r2 =>
  (c262 ((wI ((wI ((wI (r0.1.1 - r1.1.1)) - 1)) + r2.1.1)), ())).bind fun r3 =>
  some ((r3.1.1, ((leI 0 (wI ((wI ((wI (r0.1.1 - r1.1.1)) - 1)) + r2.1.1))), ())), ())
theorem s311 (c262 : F262) (c114 : F114) (y) : TE [g262 c262, g114 c114] Tryz.f311 i311 o311 y = m311 c262 c114 y := by kernel_rfl
noncomputable def r311 : F311 := m311 r262 r114 
theorem k311 : KO (g311 r311) := fk (s311 r262 r114) ⟨k262, k114, ⟨⟩⟩ (by kernel_rfl)
abbrev i313 : Ts := [.a q8, .v (.int .i64)]
abbrev o313 : Ts := [.a q8]
abbrev F313 := FT i313 o313
abbrev g313 := mkG 313 i313 o313
noncomputable def m313 (c262 : F262) (c312 : F312) (y : PTup i313) : Option (PTup o313 × BTup i313) :=
  (c262 y.2).bind fun r0 =>
  (c312 y.2).bind fun r1 =>
  some (((y.1.1, (r0.1.1, (y.1.2.2.1, (y.1.2.2.2.1, (r1.1.1, (r1.1.2.1, y.1.2.2.2.2.2.2)))))), ()), ())
theorem s313 (c262 : F262) (c312 : F312) (y) : TE [g262 c262, g312 c312] Tryz.f313 i313 o313 y = m313 c262 c312 y := by kernel_rfl
noncomputable def r313 : F313 := m313 r262 r312 
theorem k313 : KO (g313 r313) := fk (s313 r262 r312) ⟨k262, k312, ⟨⟩⟩ (by kernel_rfl)
abbrev i271 : Ts := [.a q8, .a q19, .v (.int .i64)]
abbrev o271 : Ts := [.a q8, .v (.bool)]
abbrev R271 := Option (PTup o271 × BTup i271)
abbrev F271 := PTup i271 → R271
abbrev g271 := mkG 271 i271 o271
noncomputable def m271 (c262 : F262) (c274 : F274) (c313 : F313) (c312 : F312) (c311 : F311) (c310 : F310) (y : PTup i271) : R271 :=
  let X0 : R271 := bif (eqI y.2.1.1 4) then ((c310 (y.1, y.2.1.2)).bind fun r0 => some ((r0.1.1, (true, ())), ())) else bif (eqI y.2.1.1 29) then ((c310 (y.1, y.2.2)).bind fun r0 => some ((r0.1.1, (true, ())), ())) else bif (eqI y.2.1.1 5) then ((c311 (y.1.1, (y.2.1.2.1, (y.1.2.2.2.2.2.2.1, ())))).bind fun r0 => (c274 (y.1, (r0.1.1, ()))).bind fun r1 => some (((r1.1.1.1, (r1.1.1.2.1, (r1.1.1.2.2.1, (r1.1.1.2.2.2.1, (r1.1.1.2.2.2.2.1, (r1.1.1.2.2.2.2.2.1, (r0.1.2.1, r1.1.1.2.2.2.2.2.2.2))))))), (true, ())), ())) else bif (eqI y.2.1.1 6) then ((c262 (y.1.1, ())).bind fun r0 => (c262 y.2.1.2).bind fun r1 => (c274 (y.1, ((bAnd Go.IntKind.i64 r0.1.1 r1.1.1), ()))).bind fun r2 => some ((r2.1.1, (true, ())), ())) else bif (eqI y.2.1.1 7) then ((c262 (y.1.1, ())).bind fun r0 => (c262 y.2.1.2).bind fun r1 => (c274 (y.1, ((bOr Go.IntKind.i64 r0.1.1 r1.1.1), ()))).bind fun r2 => some ((r2.1.1, (true, ())), ())) else bif (eqI y.2.1.1 8) then ((c262 (y.1.1, ())).bind fun r0 => (c262 y.2.1.2).bind fun r1 => (c274 (y.1, ((bXor Go.IntKind.i64 r0.1.1 r1.1.1), ()))).bind fun r2 => some ((r2.1.1, (true, ())), ())) else bif (eqI y.2.1.1 9) then ((c262 (y.1.1, ())).bind fun r0 => (c262 y.2.1.2).bind fun r1 => (c312 ((wI (r0.1.1 - r1.1.1)), ())).bind fun r2 => (c262 (y.1.1, ())).bind fun r3 => (c262 y.2.1.2).bind fun r4 => some (((y.1.1, (y.1.2.1, (y.1.2.2.1, (y.1.2.2.2.1, (r2.1.1, (r2.1.2.1, ((leI r4.1.1 r3.1.1), y.1.2.2.2.2.2.2.2))))))), (true, ())), ())) else bif (eqI y.2.1.1 10) then ((c313 (y.1, (y.1.1, ()))).bind fun r0 => some ((r0.1.1, (true, ())), ())) else bif (eqI y.2.1.1 11) then ((c274 (y.1, (y.1.2.1, ()))).bind fun r0 => some ((r0.1.1, (true, ())), ())) else bif (eqI y.2.1.1 12) then ((c262 (y.1.2.1, ())).bind fun r0 => (c313 (y.1, ((wI (r0.1.1 + 1)), ()))).bind fun r1 => some ((r1.1.1, (true, ())), ())) else bif (eqI y.2.1.1 13) then ((c262 (y.1.2.1, ())).bind fun r0 => (c313 (y.1, ((wI (r0.1.1 - 1)), ()))).bind fun r1 => some ((r1.1.1, (true, ())), ())) else some ((y.1, (false, ())), ()); bif (eqI y.2.1.1 1) then ((c274 (y.1, y.2.1.2)).bind fun r0 => some ((r0.1.1, (true, ())), ())) else bif (eqI y.2.1.1 2) then (bif (eqI y.2.1.1 2) then ((c274 (y.1, y.2.2)).bind fun r0 => some ((r0.1.1, (true, ())), ())) else X0) else bif (eqI y.2.1.1 14) then ((c274 (y.1, y.2.2)).bind fun r0 => some ((r0.1.1, (true, ())), ())) else X0
theorem s271 (c262 : F262) (c274 : F274) (c313 : F313) (c312 : F312) (c311 : F311) (c310 : F310) (y) : TE [g262 c262, g274 c274, g313 c313, g312 c312, g311 c311, g310 c310] Tryz.f271 i271 o271 y = m271 c262 c274 c313 c312 c311 c310 y := by kernel_rfl
noncomputable def r271 : F271 := m271 r262 r274 r313 r312 r311 r310 
theorem k271 : KO (g271 r271) := fk (s271 r262 r274 r313 r312 r311 r310) ⟨k262, k274, k313, k312, k311, k310, ⟨⟩⟩ (by kernel_rfl)
abbrev i273 : Ts := [.a q1, .a q8]
abbrev o273 : Ts := [.a q8, .v (.int .i64)]
abbrev F273 := FT i273 o273
abbrev g273 := mkG 273 i273 o273
noncomputable def m273 (c262 : F262) (y : PTup i273) : Option (PTup o273 × BTup i273) :=
  bif (neI (lenI y.1.1) 512) then (some ((y.2.1, ((0 : Int), ())), ()))
  else (c262 ((wI (y.2.1.2.2.1 + 1)), ())).bind fun r0 =>
  bif (leI 0 (wI ((256 : Int) + r0.1.1))) then (bif (ltI (wI ((256 : Int) + r0.1.1)) (lenI y.1.1)) then ((c262 ((rdE .i y.1.1 (wI ((256 : Int) + r0.1.1))), ())).bind fun r1 =>
    some (((y.2.1.1, (y.2.1.2.1, (r0.1.1, y.2.1.2.2.2))), r1.1), ()))
   else none)
  else none
theorem s273 (c262 : F262) (y) : TE [g262 c262] Tryz.f273 i273 o273 y = m273 c262 y := by kernel_rfl
noncomputable def r273 : F273 := m273 r262 
theorem k273 : KO (g273 r273) := fk (s273 r262) ⟨k262, ⟨⟩⟩ (by kernel_rfl)
abbrev i272 : Ts := [.a q1, .a q8]
abbrev o272 : Ts := [.a q8]
abbrev F272 := FT i272 o272
abbrev g272 := mkG 272 i272 o272
noncomputable def m272 (c259 : F259) (c273 : F273) (y : PTup i272) : Option (PTup o272 × BTup i272) :=
  (c273 (y.1, (y.2.1, ()))).bind fun r0 =>
  (c273 (y.1, (r0.1.1, ()))).bind fun r1 =>
  (c259 (r0.1.2.1, r1.1.2)).bind fun r2 =>
  some (((r1.1.1.1, (r1.1.1.2.1, (r1.1.1.2.2.1, (r2.1.1, r1.1.1.2.2.2.2)))), ()), ())
theorem s272 (c259 : F259) (c273 : F273) (y) : TE [g259 c259, g273 c273] Tryz.f272 i272 o272 y = m272 c259 c273 y := by kernel_rfl
noncomputable def r272 : F272 := m272 r259 r273 
theorem k272 : KO (g272 r272) := fk (s272 r259 r273) ⟨k259, k273, ⟨⟩⟩ (by kernel_rfl)
abbrev i275 : Ts := [.a q8, .v (.int .i64)]
abbrev o275 : Ts := [.a q8]
abbrev F275 := FT i275 o275
abbrev g275 := mkG 275 i275 o275
noncomputable def m275 (y : PTup i275) : Option (PTup o275 × BTup i275) :=
  some (((y.1.1, (y.1.2.1, (y.1.2.2.1, (y.1.2.2.2.1, ((neI (bAnd Go.IntKind.i64 y.2.1 (2 : Int)) (0 : Int)), ((neI (bAnd Go.IntKind.i64 y.2.1 (128 : Int)) (0 : Int)), ((neI (bAnd Go.IntKind.i64 y.2.1 (1 : Int)) (0 : Int)), ((neI (bAnd Go.IntKind.i64 y.2.1 (4 : Int)) (0 : Int)), ())))))))), ()), ())
theorem s275 (y) : TE [] Tryz.f275 i275 o275 y = m275 y := by kernel_rfl
noncomputable def r275 : F275 := m275 
theorem k275 : KO (g275 r275) := fk (s275 ) trivial (by kernel_rfl)
abbrev i198 : Ts := [.a q1, .a q8, .a q19, .v (.int .i64)]
abbrev o198 : Ts := [.a q7, .a q8]
abbrev R198 := Option (PTup o198 × BTup i198)
abbrev F198 := PTup i198 → R198
abbrev g198 := mkG 198 i198 o198
noncomputable def m198 (c261 : F261) (c258 : F258) (c273 : F273) (c264 : F264) (c274 : F274) (c275 : F275) (c133 : F133) (c271 : F271) (c272 : F272) (y : PTup i198) : R198 :=
  let a0 := y.2; let a1 := a0.1; let a2 := a0.2; let a3 := a1.1; let a4 := a1.2; let a5 := a2.1; let a6 := a4.1; let a7 := a4.2; let a8 := a5.1; let a9 := a7.1; let a10 := a7.2; let a11 := a10.2; let a12 := a11.2; (c133 (y.1, ())).bind fun r0 => let X0 : R198 := (c261 a5.2).bind fun r4 => some ((r0.1.1, ((a3, (a6, (a9, (r4.1.1, a11)))), ())), ()); (c258 (a8, ())).bind fun r1 => (c261 ((wI (a10.1 + r1.1.1)), ())).bind fun r2 => let X1 : R198 := bif (eqI a8 20) then ((c264 (r0.1.1, ((a3, (a6, (a9, (r2.1.1, a11)))), ((Int.fdiv r2.1.1 ((2 : Int) ^ (Min.min (Int.toNat (8 : Int)) (64 : Nat)))), ())))).bind fun r4 => (c264 (r4.1.1, (r4.1.2.1, (r4.1.2.1.2.2.2.1, ())))).bind fun r5 => (c261 a5.2).bind fun r6 => some ((r5.1.1, ((r5.1.2.1.1, (r5.1.2.1.2.1, (r5.1.2.1.2.2.1, (r6.1.1, r5.1.2.1.2.2.2.2)))), ())), ())) else bif (eqI a8 21) then ((c272 (y.1, ((a3, (a6, (a9, (r2.1.1, a11)))), ()))).bind fun r4 => some ((r0.1.1, (r4.1.1, ())), ())) else bif (eqI a8 22) then ((c264 (r0.1.1, ((a3, (a6, (a9, (r2.1.1, a11)))), (a3, ())))).bind fun r4 => some ((r4.1.1, (r4.1.2.1, ())), ())) else bif (eqI a8 23) then ((c273 (y.1, ((a3, (a6, (a9, (r2.1.1, a11)))), ()))).bind fun r4 => (c274 r4.1).bind fun r5 => some ((r0.1.1, (r5.1.1, ())), ())) else bif (eqI a8 24) then ((c273 (y.1, ((a3, (a6, (a9, (r2.1.1, a11)))), ()))).bind fun r4 => (c275 r4.1).bind fun r5 => (c272 (y.1, (r5.1.1, ()))).bind fun r6 => some ((r0.1.1, (r6.1.1, ())), ())) else bif (eqI a8 25) then (bif (eqI a8 25) then (some ((r0.1.1, ((a3, (a6, (a9, (r2.1.1, (a11.1, (a12.1, (a12.2.1, ((eqI a8 25), ())))))))), ())), ())) else bif (eqI a8 27) then (bif (eqI a8 27) then (some ((r0.1.1, ((a3, (a6, (a9, (r2.1.1, (a11.1, (a12.1, ((eqI a8 27), a12.2.2))))))), ())), ())) else some ((r0.1.1, ((a3, (a6, (a9, (r2.1.1, a11)))), ())), ())) else bif (eqI a8 28) then (some ((r0.1.1, ((a3, (a6, (a9, (r2.1.1, (a11.1, (a12.1, ((eqI a8 27), a12.2.2))))))), ())), ())) else some ((r0.1.1, ((a3, (a6, (a9, (r2.1.1, a11)))), ())), ())) else bif (eqI a8 26) then (some ((r0.1.1, ((a3, (a6, (a9, (r2.1.1, (a11.1, (a12.1, (a12.2.1, ((eqI a8 25), ())))))))), ())), ())) else bif (eqI a8 27) then (bif (eqI a8 27) then (some ((r0.1.1, ((a3, (a6, (a9, (r2.1.1, (a11.1, (a12.1, ((eqI a8 27), a12.2.2))))))), ())), ())) else some ((r0.1.1, ((a3, (a6, (a9, (r2.1.1, a11)))), ())), ())) else bif (eqI a8 28) then (some ((r0.1.1, ((a3, (a6, (a9, (r2.1.1, (a11.1, (a12.1, ((eqI a8 27), a12.2.2))))))), ())), ())) else some ((r0.1.1, ((a3, (a6, (a9, (r2.1.1, a11)))), ())), ()); let X2 : R198 := bif (eqI a8 17) then (bif a11.1 then X0 else bif (eqI a8 18) then (bif a12.2.1 then X0 else bif (eqI a8 19) then X0 else some ((r0.1.1, ((a3, (a6, (a9, (r2.1.1, a11)))), ())), ())) else bif (eqI a8 19) then X0 else some ((r0.1.1, ((a3, (a6, (a9, (r2.1.1, a11)))), ())), ())) else bif (eqI a8 18) then (bif a12.2.1 then X0 else bif (eqI a8 19) then X0 else some ((r0.1.1, ((a3, (a6, (a9, (r2.1.1, a11)))), ())), ())) else bif (eqI a8 19) then X0 else some ((r0.1.1, ((a3, (a6, (a9, (r2.1.1, a11)))), ())), ()); let X3 : R198 := bif (eqI a8 16) then (bif (!a11.1) then X0 else X2) else X2; (c271 ((a3, (a6, (a9, (r2.1.1, a11)))), a2)).bind fun r3 => bif r3.1.2.1 then (some ((r0.1.1, (r3.1.1, ())), ())) else bif (eqI a8 16) then (bif (eqI a8 16) then X3 else X1) else bif (eqI a8 17) then (bif (eqI a8 17) then X3 else X1) else bif (eqI a8 18) then (bif (eqI a8 18) then X3 else X1) else bif (eqI a8 19) then X3 else X1
theorem s198 (c261 : F261) (c258 : F258) (c273 : F273) (c264 : F264) (c274 : F274) (c275 : F275) (c133 : F133) (c271 : F271) (c272 : F272) (y) : TE [g261 c261, g258 c258, g273 c273, g264 c264, g274 c274, g275 c275, g133 c133, g271 c271, g272 c272] Tryz.f198 i198 o198 y = m198 c261 c258 c273 c264 c274 c275 c133 c271 c272 y := by kernel_rfl
noncomputable def r198 : F198 := m198 r261 r258 r273 r264 r274 r275 r133 r271 r272 
theorem k198 : KO (g198 r198) := fk (s198 r261 r258 r273 r264 r274 r275 r133 r271 r272) ⟨k261, k258, k273, k264, k274, k275, k133, k271, k272, ⟨⟩⟩ (by kernel_rfl)
abbrev i193 : Ts := [.v (.int .i64)]
abbrev o193 : Ts := [.v (.int .i64)]
abbrev F193 := FT i193 o193
abbrev g193 := mkG 193 i193 o193
noncomputable def m193 (c142 : F142) (y : PTup i193) : Option (PTup o193 × BTup i193) :=
  (c142 (y.1, ((0 : Int), ((29 : Int), ())))).bind fun r0 =>
  bif (!r0.1.1) then (some (((2 : Int), ()), ()))
  else bif (leI 0 y.1) then (bif (ltI y.1 (lenI ((2 : Int) :: ((2 : Int) :: ((4 : Int) :: ((4 : Int) :: ((2 : Int) :: ((2 : Int) :: ((2 : Int) :: ((2 : Int) :: ((2 : Int) :: ((2 : Int) :: ((2 : Int) :: ((2 : Int) :: ((2 : Int) :: ((2 : Int) :: ((4 : Int) :: ((5 : Int) :: ((3 : Int) :: ((3 : Int) :: ((3 : Int) :: ((3 : Int) :: ((6 : Int) :: ((6 : Int) :: ((3 : Int) :: ((4 : Int) :: ((6 : Int) :: ((2 : Int) :: ((2 : Int) :: ((2 : Int) :: ((2 : Int) :: ((4 : Int) :: [])))))))))))))))))))))))))))))))) then (some (((rdE .i ((2 : Int) :: ((2 : Int) :: ((4 : Int) :: ((4 : Int) :: ((2 : Int) :: ((2 : Int) :: ((2 : Int) :: ((2 : Int) :: ((2 : Int) :: ((2 : Int) :: ((2 : Int) :: ((2 : Int) :: ((2 : Int) :: ((2 : Int) :: ((4 : Int) :: ((5 : Int) :: ((3 : Int) :: ((3 : Int) :: ((3 : Int) :: ((3 : Int) :: ((6 : Int) :: ((6 : Int) :: ((3 : Int) :: ((4 : Int) :: ((6 : Int) :: ((2 : Int) :: ((2 : Int) :: ((2 : Int) :: ((2 : Int) :: ((4 : Int) :: [])))))))))))))))))))))))))))))) y.1), ()), ()))
   else none)
  else none
theorem s193 (c142 : F142) (y) : TE [g142 c142] Tryz.f193 i193 o193 y = m193 c142 y := by kernel_rfl
noncomputable def r193 : F193 := m193 r142 
theorem k193 : KO (g193 r193) := fk (s193 r142) ⟨k142, ⟨⟩⟩ (by kernel_rfl)
abbrev i243 : Ts := [.a q18]
abbrev o243 : Ts := [.a q18, .v (.int .i64)]
abbrev R243 := Option (PTup o243 × BTup i243)
abbrev F243 := PTup i243 → R243
abbrev g243 := mkG 243 i243 o243
noncomputable def m243 (c190 : F190) (c194 : F194) (c198 : F198) (c189 : F189) (c193 : F193) (c292 : F292) (c293 : F293) (y : PTup i243) : R243 :=
  let a0 := y.1; let a1 := a0.2; let a2 := a1.2; let a3 := a2.2; let a4 := a3.2; let a5 := a4.2; let a6 := a5.2; let a7 := a6.2; let a8 := a7.2; let a9 := a8.2; let a10 := a9.2; let a11 := a10.2; let a12 := a11.2; let a13 := a12.2; let a14 := a13.2; let a15 := a14.2; let a16 := a15.2; let a17 := a16.2; let a18 := a17.2; let a19 := a18.2; let a20 := a19.2; let a21 := a20.2; let a22 := a21.2; let a23 := a22.2.2; let a24 := a23.2.2; let X0 : R243 := (c189 ((a0.1, ()), ((a2.1, (a3.1, ())), (a7.1, ())))).bind fun r0 => (c190 (r0.1.1, ((a4.1, (a5.1, (a6.1, (a7.1, (a8.1, (a9.1, (a10.1, (a11.1, ())))))))), ()))).bind fun r1 => bif (eqI r1.1.1 1) then ((c292 (a0, (r1.1.2.1, ()))).bind fun r2 => (c198 ((r2.1.1.2.2.1, (r2.1.1.2.2.2.1, ())), ((r2.1.1.2.2.2.2.1, (r2.1.1.2.2.2.2.2.1, (r2.1.1.2.2.2.2.2.2.1, (r2.1.1.2.2.2.2.2.2.2.1, (r2.1.1.2.2.2.2.2.2.2.2.1, (r2.1.1.2.2.2.2.2.2.2.2.2.1, (r2.1.1.2.2.2.2.2.2.2.2.2.2.1, (r2.1.1.2.2.2.2.2.2.2.2.2.2.2.1, ())))))))), (r0.1.1, r2.1.2)))).bind fun r3 => (c193 (r0.1.1.1, ())).bind fun r4 => some (((r2.1.1.1, (r2.1.1.2.1, (r3.1.1.1, (r3.1.1.2.1, (r3.1.2.1.1, (r3.1.2.1.2.1, (r3.1.2.1.2.2.1, (r3.1.2.1.2.2.2.1, (r3.1.2.1.2.2.2.2.1, (r3.1.2.1.2.2.2.2.2.1, (r3.1.2.1.2.2.2.2.2.2.1, (r3.1.2.1.2.2.2.2.2.2.2.1, r2.1.1.2.2.2.2.2.2.2.2.2.2.2.2)))))))))))), r4.1), ())) else bif (eqI r1.1.1 2) then ((c293 (a0, r1.1.2)).bind fun r2 => (c198 ((r2.1.1.2.2.1, (r2.1.1.2.2.2.1, ())), ((r2.1.1.2.2.2.2.1, (r2.1.1.2.2.2.2.2.1, (r2.1.1.2.2.2.2.2.2.1, (r2.1.1.2.2.2.2.2.2.2.1, (r2.1.1.2.2.2.2.2.2.2.2.1, (r2.1.1.2.2.2.2.2.2.2.2.2.1, (r2.1.1.2.2.2.2.2.2.2.2.2.2.1, (r2.1.1.2.2.2.2.2.2.2.2.2.2.2.1, ())))))))), (r0.1.1, ((0 : Int), ()))))).bind fun r3 => (c193 (r0.1.1.1, ())).bind fun r4 => some (((r2.1.1.1, (r2.1.1.2.1, (r3.1.1.1, (r3.1.1.2.1, (r3.1.2.1.1, (r3.1.2.1.2.1, (r3.1.2.1.2.2.1, (r3.1.2.1.2.2.2.1, (r3.1.2.1.2.2.2.2.1, (r3.1.2.1.2.2.2.2.2.1, (r3.1.2.1.2.2.2.2.2.2.1, (r3.1.2.1.2.2.2.2.2.2.2.1, r2.1.1.2.2.2.2.2.2.2.2.2.2.2.2)))))))))))), r4.1), ())) else (c198 ((a2.1, (a3.1, ())), ((a4.1, (a5.1, (a6.1, (a7.1, (a8.1, (a9.1, (a10.1, (a11.1, ())))))))), (r0.1.1, ((0 : Int), ()))))).bind fun r2 => (c193 (r0.1.1.1, ())).bind fun r3 => some (((a0.1, (a1.1, (r2.1.1.1, (r2.1.1.2.1, (r2.1.2.1.1, (r2.1.2.1.2.1, (r2.1.2.1.2.2.1, (r2.1.2.1.2.2.2.1, (r2.1.2.1.2.2.2.2.1, (r2.1.2.1.2.2.2.2.2.1, (r2.1.2.1.2.2.2.2.2.2.1, (r2.1.2.1.2.2.2.2.2.2.2.1, a12)))))))))))), r3.1), ()); bif a24.2.2.2.1 then ((c194 ((a0.1, ()), ((a2.1, (a3.1, ())), ((a4.1, (a5.1, (a6.1, (a7.1, (a8.1, (a9.1, (a10.1, (a11.1, ())))))))), ((65530 : Int), ()))))).bind fun r0 => some (((a0.1, (a1.1, (r0.1.1.1, (r0.1.1.2.1, (r0.1.2.1.1, (r0.1.2.1.2.1, (r0.1.2.1.2.2.1, (r0.1.2.1.2.2.2.1, (r0.1.2.1.2.2.2.2.1, (r0.1.2.1.2.2.2.2.2.1, (r0.1.2.1.2.2.2.2.2.2.1, (r0.1.2.1.2.2.2.2.2.2.2.1, (a12.1, (a13.1, (a14.1, (a15.1, (a16.1, (a17.1, (a18.1, (a19.1, (a20.1, (a21.1, (a22.1, (a22.2.1, (a23.1, (a23.2.1, (a24.1, (a24.2.1, (a24.2.2.1, (false, a24.2.2.2.2)))))))))))))))))))))))))))))), ((7 : Int), ())), ())) else bif a24.1 then (bif (!a11.1) then ((c194 ((a0.1, ()), ((a2.1, (a3.1, ())), ((a4.1, (a5.1, (a6.1, (a7.1, (a8.1, (a9.1, (a10.1, (a11.1, ())))))))), ((65534 : Int), ()))))).bind fun r0 => some (((a0.1, (a1.1, (r0.1.1.1, (r0.1.1.2.1, (r0.1.2.1.1, (r0.1.2.1.2.1, (r0.1.2.1.2.2.1, (r0.1.2.1.2.2.2.1, (r0.1.2.1.2.2.2.2.1, (r0.1.2.1.2.2.2.2.2.1, (r0.1.2.1.2.2.2.2.2.2.1, (r0.1.2.1.2.2.2.2.2.2.2.1, a12)))))))))))), ((7 : Int), ())), ())) else X0) else X0
theorem s243 (c190 : F190) (c194 : F194) (c198 : F198) (c189 : F189) (c193 : F193) (c292 : F292) (c293 : F293) (y) : TE [g190 c190, g194 c194, g198 c198, g189 c189, g193 c193, g292 c292, g293 c293] Tryz.f243 i243 o243 y = m243 c190 c194 c198 c189 c193 c292 c293 y := by kernel_rfl
noncomputable def r243 : F243 := m243 r190 r194 r198 r189 r193 r292 r293 
theorem k243 : KO (g243 r243) := fk (s243 r190 r194 r198 r189 r193 r292 r293) ⟨k190, k194, k198, k189, k193, k292, k293, ⟨⟩⟩ (by kernel_rfl)
abbrev i244 : Ts := [.a [.sl true .n, .sl true .i, .sl true .i, .int .i64, .int .i64, .int .i64, .int .i64, .int .i64, .bool, .bool, .bool, .bool, .int .i64, .int .i64, .int .i64, .int .i64, .int .i64, .bool, .sl false .i, .sl false .i, .int .i64, .int .i64, .int .i64, .int .i64, .int .i64, .bool, .bool, .bool, .int .i64, .bool, .int .i64, .sl true .n, .sl true .i, .sl true .i]]
abbrev o244 : Ts := [.a q18]
abbrev F244 := FT i244 o244
abbrev g244 := mkG 244 i244 o244
noncomputable def m244 (c216 : F216) (c214 : F214) (y : PTup i244) : Option (PTup o244 × BTup i244) :=
  let a0 := y.1; let a1 := a0.2; let a2 := a1.2; let a3 := a2.2; let a4 := a3.2; let a5 := a4.2; let a6 := a5.2; let a7 := a6.2; let a8 := a7.2; let a9 := a8.2; let a10 := a9.2; let a11 := a10.2; let a12 := a11.2; let a13 := a12.2; let a14 := a13.2; let a15 := a14.2; let a16 := a15.2; let a17 := a16.2; let a18 := a17.2; let a19 := a18.2; let a20 := a19.2; let a21 := a20.2; let a22 := a21.2; let a23 := a22.2; let a24 := a23.2; let a25 := a24.2; let a26 := a25.2; let a27 := a26.2; let a28 := a27.2; let a29 := a28.2; let a30 := a29.2; let a31 := a30.2; let a32 := a31.2; (c214 ((a12.1, (a13.1, (a14.1, (a15.1, (a16.1, (a17.1, (a18.1, (a19.1, ())))))))), ())).bind fun r0 => let b0 := r0.1; let b1 := b0.1; let b2 := b0.2; let b3 := b1.2; let b4 := b3.2; let b5 := b4.2; let b6 := b5.2; let b7 := b6.2; let b8 := b7.2; let b9 := b8.2.1; (c216 ((a20.1, (a21.1, (a22.1, (a23.1, (a24.1, (a25.1, (a26.1, ()))))))), ())).bind fun r1 => let d0 := r1.1; let d1 := d0.1; let d2 := d1.2; let d3 := d0.2.1; let d4 := d2.2; let d5 := d4.2; let d6 := d5.2; let d7 := d6.2; let d8 := d7.2.1; bif (eqI (Int.tmod a12.1 64) (48 : Int)) then (bif (leN ((List.length a31.1) + (List.length (b2.1 :: []))) (E.most .n)) then (bif d0.2.2.1 then (bif (leN ((List.length a32.1) + (List.length (d3 :: []))) (E.most .i)) then (bif a29.1 then (some (((a0.1, (a1.1, (a2.1, (a3.1, (a4.1, (a5.1, (a6.1, (a7.1, (a8.1, (a9.1, (a10.1, (a11.1, (b1.1, (b3.1, (b4.1, (b5.1, (b6.1, (b7.1, (b8.1, (b9, (d1.1, (d2.1, (d4.1, (d5.1, (d6.1, (d7.1, (d8, (a27.1, (a28.1, (true, (a30.1, ((a31.1 ++ (b2.1 :: [])), ((a32.1 ++ (d3 :: [])), a32.2))))))))))))))))))))))))))))))))), ()), ()))
      else some (((a0.1, (a1.1, (a2.1, (a3.1, (a4.1, (a5.1, (a6.1, (a7.1, (a8.1, (a9.1, (a10.1, (a11.1, (b1.1, (b3.1, (b4.1, (b5.1, (b6.1, (b7.1, (b8.1, (b9, (d1.1, (d2.1, (d4.1, (d5.1, (d6.1, (d7.1, (d8, (a27.1, (a28.1, (b2.2.1, (a30.1, ((a31.1 ++ (b2.1 :: [])), ((a32.1 ++ (d3 :: [])), a32.2))))))))))))))))))))))))))))))))), ()), ()))
     else none)
    else bif a29.1 then (some (((a0.1, (a1.1, (a2.1, (a3.1, (a4.1, (a5.1, (a6.1, (a7.1, (a8.1, (a9.1, (a10.1, (a11.1, (b1.1, (b3.1, (b4.1, (b5.1, (b6.1, (b7.1, (b8.1, (b9, (d1.1, (d2.1, (d4.1, (d5.1, (d6.1, (d7.1, (d8, (a27.1, (a28.1, (true, (a30.1, ((a31.1 ++ (b2.1 :: [])), a32)))))))))))))))))))))))))))))))), ()), ()))
    else some (((a0.1, (a1.1, (a2.1, (a3.1, (a4.1, (a5.1, (a6.1, (a7.1, (a8.1, (a9.1, (a10.1, (a11.1, (b1.1, (b3.1, (b4.1, (b5.1, (b6.1, (b7.1, (b8.1, (b9, (d1.1, (d2.1, (d4.1, (d5.1, (d6.1, (d7.1, (d8, (a27.1, (a28.1, (b2.2.1, (a30.1, ((a31.1 ++ (b2.1 :: [])), a32)))))))))))))))))))))))))))))))), ()), ()))
   else none)
  else bif d0.2.2.1 then (bif (leN ((List.length a32.1) + (List.length (d3 :: []))) (E.most .i)) then (bif a29.1 then (some (((a0.1, (a1.1, (a2.1, (a3.1, (a4.1, (a5.1, (a6.1, (a7.1, (a8.1, (a9.1, (a10.1, (a11.1, (b1.1, (b3.1, (b4.1, (b5.1, (b6.1, (b7.1, (b8.1, (b9, (d1.1, (d2.1, (d4.1, (d5.1, (d6.1, (d7.1, (d8, (a27.1, (a28.1, (true, (a30.1, (a31.1, ((a32.1 ++ (d3 :: [])), a32.2))))))))))))))))))))))))))))))))), ()), ()))
    else some (((a0.1, (a1.1, (a2.1, (a3.1, (a4.1, (a5.1, (a6.1, (a7.1, (a8.1, (a9.1, (a10.1, (a11.1, (b1.1, (b3.1, (b4.1, (b5.1, (b6.1, (b7.1, (b8.1, (b9, (d1.1, (d2.1, (d4.1, (d5.1, (d6.1, (d7.1, (d8, (a27.1, (a28.1, (b2.2.1, (a30.1, (a31.1, ((a32.1 ++ (d3 :: [])), a32.2))))))))))))))))))))))))))))))))), ()), ()))
   else none)
  else bif a29.1 then (some (((a0.1, (a1.1, (a2.1, (a3.1, (a4.1, (a5.1, (a6.1, (a7.1, (a8.1, (a9.1, (a10.1, (a11.1, (b1.1, (b3.1, (b4.1, (b5.1, (b6.1, (b7.1, (b8.1, (b9, (d1.1, (d2.1, (d4.1, (d5.1, (d6.1, (d7.1, (d8, (a27.1, (a28.1, (true, a30)))))))))))))))))))))))))))))), ()), ()))
  else some (((a0.1, (a1.1, (a2.1, (a3.1, (a4.1, (a5.1, (a6.1, (a7.1, (a8.1, (a9.1, (a10.1, (a11.1, (b1.1, (b3.1, (b4.1, (b5.1, (b6.1, (b7.1, (b8.1, (b9, (d1.1, (d2.1, (d4.1, (d5.1, (d6.1, (d7.1, (d8, (a27.1, (a28.1, (b2.2.1, a30)))))))))))))))))))))))))))))), ()), ())
theorem s244 (c216 : F216) (c214 : F214) (y) : TE [g216 c216, g214 c214] Tryz.f244 i244 o244 y = m244 c216 c214 y := by kernel_rfl
noncomputable def r244 : F244 := m244 r216 r214 
theorem k244 : KO (g244 r244) := fk (s244 r216 r214) ⟨k216, k214, ⟨⟩⟩ (by kernel_rfl)
abbrev i173 : Ts := [.a q18]
abbrev o173 : Ts := [.a q18, .v (.bool)]
abbrev R173 := Option (PTup o173 × BTup i173)
abbrev F173 := PTup i173 → R173
abbrev g173 (c : F173) : Nat × Tev.Fn := (173, ⟨i173, o173, c, .may⟩)
abbrev lc173_0 : Ts := [.v (.int .i64)]
abbrev lb173_0 : Ts := [.p q18]
abbrev lv173_0 : Ts := [.v (.int .i64)]
abbrev lr173_0 : Ts := []
abbrev R173_0 := Option (Sum (PTup lv173_0) (PTup lr173_0) × BTup lb173_0)
abbrev B173_0 := PTup lb173_0 → PTup lv173_0 → R173_0
abbrev A173_0 := PTup lc173_0 → B173_0
noncomputable def w173_0 (c243 : F243) (c244 : F244) (again : B173_0) (x : PTup lc173_0) (y : PTup lb173_0) (z : PTup lv173_0) : R173_0 :=
  bif (ltI z.1 x.1) then ((c244 (y.1, ())).bind fun r0 =>
   again (r0.1.1, ()) ((wI (z.1 + 1)), ()))
  else some ((Sum.inl z), (y.1, ()))
noncomputable def e173_0 (l : A173_0) : LoopE := ⟨[5], lc173_0, [4], lb173_0, [6], lv173_0, [], lr173_0, 0, [], l⟩
noncomputable def m173 (c243 : F243) (c244 : F244) (l0 : A173_0) (y : PTup i173) : R173 :=
  let X0 : R173 := some ((([], ([], ([], ((0 : Int), ((0 : Int), ((0 : Int), ((0 : Int), ((0 : Int), (false, (false, (false, (false, ((0 : Int), ((0 : Int), ((0 : Int), ((0 : Int), ((0 : Int), (false, ([], ([], ((0 : Int), ((0 : Int), ((0 : Int), ((0 : Int), ((0 : Int), (false, (false, (false, ((0 : Int), (false, ((0 : Int), ([], ([], ([], ())))))))))))))))))))))))))))))))))), (false, ())), ()); (c243 (y.1, ())).bind fun r0 => bif (ltI 20000 (wI (r0.1.1.2.2.2.2.2.2.2.2.2.2.2.2.1 + r0.1.2.1))) then X0 else (l0 r0.1.2 (r0.1.1, ()) ((0 : Int), ())).bind fun r1 => let d0 := r1.2; let d1 := d0.1; let d2 := d1.2; let d3 := d2.2; let d4 := d3.2; let d5 := d4.2; let d6 := d5.2; let d7 := d6.2; let d8 := d7.2; let d9 := d8.2; let d10 := d9.2; let d11 := d10.2; let d12 := d11.2; let d13 := d12.2; let d14 := d13.2; let d15 := d14.2; let d16 := d15.2; let d17 := d16.2; let d18 := d17.2; let d19 := d18.2; let d20 := d19.2; let d21 := d20.2; let d22 := d21.2; let d23 := d22.2; let d24 := d23.2.2; let d25 := d24.2.2; sumElim r1.1 (fun r2 => some (((d1.1, (d2.1, (d3.1, (d4.1, (d5.1, (d6.1, (d7.1, (d8.1, (d9.1, (d10.1, (d11.1, (d12.1, (d13.1, (d14.1, (d15.1, (d16.1, (d17.1, (d18.1, (d19.1, (d20.1, (d21.1, (d22.1, (d23.1, (d23.2.1, (d24.1, (d24.2.1, (d25.1, (d25.2.1, (d25.2.2.1, (d25.2.2.2.1, ((wI (d25.2.2.2.2.1 + 1)), d25.2.2.2.2.2))))))))))))))))))))))))))))))), (true, ())), ())) (fun r2 => X0)
noncomputable def E173 (c243 : F243) (c244 : F244) (l0 : A173_0) : CEnv := ⟨⟨Tryz.prog, fnsL [g243 c243, g244 c244]⟩, loopsL [(5, e173_0 l0)]⟩
theorem t173_0 (c243 : F243) (c244 : F244) (l0 : A173_0) (again) (x y z) : loopRound (E173 c243 c244 l0) (loopAt (bodyOf Tryz.f173) 0) (e173_0 l0) Tryz.f173.ntmps again x y z = w173_0 c243 c244 again x y z := by kernel_rfl
noncomputable def n173_0 (c243 : F243) (c244 : F244) : Nat → A173_0
  | 0, _, _, _ => none
  | n + 1, x, y, z => w173_0 c243 c244 (fun y z => n173_0 c243 c244 n x y z) x y z
theorem s173 (c243 : F243) (c244 : F244) (l0 : A173_0) (y) : tevY (E173 c243 c244 l0) Tryz.f173 i173 [.sl true .n, .sl true .i, .sl true .i, .int .i64, .int .i64, .int .i64, .int .i64, .int .i64, .bool, .bool, .bool, .bool, .int .i64, .int .i64, .int .i64, .int .i64, .int .i64, .bool, .sl true .i, .sl true .i, .int .i64, .int .i64, .int .i64, .int .i64, .int .i64, .bool, .bool, .bool, .int .i64, .bool, .int .i64, .sl true .n, .sl true .i, .sl true .i] y = m173 c243 c244 l0 y := by kernel_rfl
noncomputable def L173_0 : A173_0 := n173_0 r243 r244 fuel
noncomputable def r173 : F173 := m173 r243 r244 L173_0
theorem k173 : KO (g173 r173) := by
  have hE : ∀ g f, (E173 r243 r244 L173_0).env.fns g = some f → CallOk Tryz.prog g f := fnsL_ok ⟨k243, k244, ⟨⟩⟩
  have h0 : LoopOk Tryz.prog Tryz.f173.ntmps (loopAt (bodyOf Tryz.f173) 0) (e173_0 L173_0) := lp_ok (E := E173 r243 r244 L173_0) rfl hE mixed (AllLoops.of_list (l := []) (by kernel_rfl) trivial) (n173_0 r243 r244 ) (fun _ _ _ => rfl) (fun n x y z => t173_0 r243 r244 L173_0 _ x y z) rfl
  exact fnY_ok (E := E173 r243 r244 L173_0) rfl hE mixed (by kernel_rfl) (by kernel_rfl) (AllLoops.of_list (l := [(loopAt (bodyOf Tryz.f173) 0)]) (by kernel_rfl) (.one (by kernel_rfl) h0 trivial)) (s173 r243 r244 L173_0)
abbrev i90 : Ts := [.a q17]
abbrev o90 : Ts := [.a q18, .v (.bool)]
abbrev F90 := FT i90 o90
abbrev g90 := mkG 90 i90 o90
noncomputable def m90 (c87 : F87) (c88 : F88) (c173 : F173) (y : PTup i90) : Option (PTup o90 × BTup i90) :=
  (c87 (y.1, ())).bind fun r0 =>
  bif (!r0.1.1) then (some ((([], ([], ([], ((0 : Int), ((0 : Int), ((0 : Int), ((0 : Int), ((0 : Int), (false, (false, (false, (false, ((0 : Int), ((0 : Int), ((0 : Int), ((0 : Int), ((0 : Int), (false, ([], ([], ((0 : Int), ((0 : Int), ((0 : Int), ((0 : Int), ((0 : Int), (false, (false, (false, ((0 : Int), (false, ((0 : Int), ([], ([], ([], ())))))))))))))))))))))))))))))))))), (false, ())), ()))
  else (c88 (y.1, ())).bind fun r1 =>
  (c173 (r1.1.1, ())).bind fun r2 =>
  bif r2.1.2.1 then (some ((r2.1.1, (true, ())), ()))
  else (c88 (y.1, ())).bind fun r3 =>
  some ((r3.1.1, (false, ())), ())
theorem s90 (c87 : F87) (c88 : F88) (c173 : F173) (y) : TE [g87 c87, g88 c88, g173 c173] Tryz.f90 i90 o90 y = m90 c87 c88 c173 y := by kernel_rfl
noncomputable def r90 : F90 := m90 r87 r88 r173 
theorem k90 : KO (g90 r90) := fk (s90 r87 r88 r173) ⟨k87, k88, k173, ⟨⟩⟩ (by kernel_rfl)
abbrev i23 : Ts := [.a q17, .v (.int .i64)]
abbrev o23 : Ts := [.a q18, .v (.int .i64)]
abbrev F23 := FT i23 o23
abbrev g23 := mkG 23 i23 o23
abbrev lc23_0 : Ts := [.v (.int .i64)]
abbrev lb23_0 : Ts := [.p q18, .p q18]
abbrev lv23_0 : Ts := [.v (.int .i64)]
abbrev lr23_0 : Ts := [.v (.int .i64)]
abbrev R23_0 := Option (Sum (PTup lv23_0) (PTup lr23_0) × BTup lb23_0)
abbrev B23_0 := PTup lb23_0 → PTup lv23_0 → R23_0
abbrev A23_0 := PTup lc23_0 → B23_0
noncomputable def w23_0 (c87 : F87) (c90 : F90) (c88 : F88) (c89 : F89) (again : B23_0) (x : PTup lc23_0) (y : PTup lb23_0) (z : PTup lv23_0) : R23_0 :=
  let a0 := y.2; let a1 := a0.1; let a2 := a1.2; let a3 := a2.2; let a4 := a3.2; let a5 := a4.2; let a6 := a5.2; let a7 := a6.2; let a8 := a7.2; let a9 := a8.2; let a10 := a9.2; let a11 := a10.2; let a12 := a11.2; let a13 := a12.2; let a14 := a13.2; let a15 := a14.2; let a16 := a15.2; let a17 := a16.2; let a18 := a17.2; let a19 := a18.2; let a20 := a19.2; let a21 := a20.2; let a22 := a21.2; let a23 := a22.2.2; let a24 := a23.2.2; (c89 (x.1, ((3000 : Int), ()))).bind fun r0 =>
  bif (ltI z.1 r0.1.1) then ((c90 (a1, ())).bind fun r1 =>
   bif (!r1.1.2.1) then (some ((Sum.inr z), (a1, (([], ([], ([], (a4.1, (a5.1, (a6.1, (a7.1, (a8.1, (a9.1, (a10.1, (a11.1, (a12.1, (a13.1, (a14.1, (a15.1, (a16.1, (a17.1, (a18.1, ([], ([], (a21.1, (a22.1, (a22.2.1, (a23.1, (a23.2.1, (a24.1, (a24.2.1, (a24.2.2.1, (a24.2.2.2.1, (a24.2.2.2.2.1, (a24.2.2.2.2.2.1, ([], ([], ([], ())))))))))))))))))))))))))))))))))), ()))))
   else again (y.1, (r1.1.1, ())) ((wI (z.1 + 1)), ()))
  else some ((Sum.inl z), (y.1, (a1, ())))
noncomputable def e23_0 (l : A23_0) : LoopE := ⟨[1], lc23_0, [4, 6], lb23_0, [7], lv23_0, [5], lr23_0, 0, [false, true], l⟩
noncomputable def m23 (c87 : F87) (c90 : F90) (c88 : F88) (c89 : F89) (l0 : A23_0) (y : PTup i23) : Option (PTup o23 × BTup i23) :=
  (c87 (y.1, ())).bind fun r0 =>
  bif (!r0.1.1) then (some ((([], ([], ([], ((0 : Int), ((0 : Int), ((0 : Int), ((0 : Int), ((0 : Int), (false, (false, (false, (false, ((0 : Int), ((0 : Int), ((0 : Int), ((0 : Int), ((0 : Int), (false, ([], ([], ((0 : Int), ((0 : Int), ((0 : Int), ((0 : Int), ((0 : Int), (false, (false, (false, ((0 : Int), (false, ((0 : Int), ([], ([], ([], ())))))))))))))))))))))))))))))))))), ((0 : Int), ())), ()))
  else (c88 (y.1, ())).bind fun r1 =>
  (l0 y.2 (([], ([], ([], ((0 : Int), ((0 : Int), ((0 : Int), ((0 : Int), ((0 : Int), (false, (false, (false, (false, ((0 : Int), ((0 : Int), ((0 : Int), ((0 : Int), ((0 : Int), (false, ([], ([], ((0 : Int), ((0 : Int), ((0 : Int), ((0 : Int), ((0 : Int), (false, (false, (false, ((0 : Int), (false, ((0 : Int), ([], ([], ([], ())))))))))))))))))))))))))))))))))), (r1.1.1, ())) ((0 : Int), ())).bind fun r2 =>
  sumElim r2.1 (fun r3 => some ((r2.2.2.1, r3), ()))
  (fun r3 => some ((r2.2.1, r3), ()))
noncomputable def E23 (c87 : F87) (c90 : F90) (c88 : F88) (c89 : F89) (l0 : A23_0) : CEnv := ⟨⟨Tryz.prog, fnsL [g87 c87, g90 c90, g88 c88, g89 c89]⟩, loopsL [(5, e23_0 l0)]⟩
theorem t23_0 (c87 : F87) (c90 : F90) (c88 : F88) (c89 : F89) (l0 : A23_0) (again) (x y z) : loopRound (E23 c87 c90 c88 c89 l0) (loopAt (bodyOf Tryz.f23) 0) (e23_0 l0) Tryz.f23.ntmps again x y z = w23_0 c87 c90 c88 c89 again x y z := by kernel_rfl
noncomputable def n23_0 (c87 : F87) (c90 : F90) (c88 : F88) (c89 : F89) : Nat → A23_0
  | 0, _, _, _ => none
  | n + 1, x, y, z => w23_0 c87 c90 c88 c89 (fun y z => n23_0 c87 c90 c88 c89 n x y z) x y z
theorem s23 (c87 : F87) (c90 : F90) (c88 : F88) (c89 : F89) (l0 : A23_0) (y) : tevF (E23 c87 c90 c88 c89 l0) Tryz.f23 i23 o23 y = m23 c87 c90 c88 c89 l0 y := by kernel_rfl
noncomputable def L23_0 : A23_0 := n23_0 r87 r90 r88 r89 fuel
noncomputable def r23 : F23 := m23 r87 r90 r88 r89 L23_0
theorem k23 : KO (g23 r23) := by
  have hE : ∀ g f, (E23 r87 r90 r88 r89 L23_0).env.fns g = some f → CallOk Tryz.prog g f := fnsL_ok ⟨k87, k90, k88, k89, ⟨⟩⟩
  have h0 : LoopOk Tryz.prog Tryz.f23.ntmps (loopAt (bodyOf Tryz.f23) 0) (e23_0 L23_0) := lp_ok (E := E23 r87 r90 r88 r89 L23_0) rfl hE mixed (AllLoops.of_list (l := []) (by kernel_rfl) trivial) (n23_0 r87 r90 r88 r89 ) (fun _ _ _ => rfl) (fun n x y z => t23_0 r87 r90 r88 r89 L23_0 _ x y z) rfl
  exact fn_ok (E := E23 r87 r90 r88 r89 L23_0) rfl hE mixed (by kernel_rfl) (by kernel_rfl) (AllLoops.of_list (l := [(loopAt (bodyOf Tryz.f23) 0)]) (by kernel_rfl) (.one (by kernel_rfl) h0 trivial)) (s23 r87 r90 r88 r89 L23_0)
abbrev i94 : Ts := [.a q17]
abbrev o94 : Ts := [.v (.bool)]
abbrev F94 := FT i94 o94
abbrev g94 := mkG 94 i94 o94
noncomputable def m94 (c175 : F175) (c153 : F153) (c151 : F151) (c152 : F152) (c174 : F174) (c176 : F176) (c156 : F156) (c177 : F177) (c158 : F158) (y : PTup i94) : Option (PTup o94 × BTup i94) :=
  let a0 := y.1; let a1 := a0.2; let a2 := a1.2; let a3 := a2.2; let a4 := a3.2; let a5 := a4.2; let a6 := a5.2; let a7 := a6.2; let a8 := a7.2; let a9 := a8.2; let a10 := a9.2; let a11 := a10.2; let a12 := a11.2; let a13 := a12.2; let a14 := a13.2; let a15 := a14.2; let a16 := a15.2; let a17 := a16.2; let a18 := a17.2; let a19 := a18.2; let a20 := a19.2; let a21 := a20.2; let a22 := a21.2.2; let a23 := a22.2.2; let a24 := a23.2.2.2; (c151 ((a0.1, ()), ((a2.1, (a3.1, ())), ()))).bind fun r0 =>
  bif r0.1.1 then ((c152 (a1.1, ())).bind fun r1 =>
   bif r1.1.1 then ((c153 ((a4.1, (a5.1, (a6.1, (a7.1, (a8.1, (a9.1, (a10.1, (a11.1, ())))))))), ())).bind fun r2 =>
    bif r2.1.1 then ((c174 ((a12.1, (a13.1, (a14.1, (a15.1, (a16.1, (a17.1, (a18.1, (a19.1, ())))))))), ())).bind fun r3 =>
     bif r3.1.1 then ((c175 ((a20.1, (a21.1, (a21.2.1, (a22.1, (a22.2.1, (a23.1, (a23.2.1, ()))))))), ())).bind fun r4 =>
      bif r4.1.1 then ((c156 (a24.1, ())).bind fun r5 =>
       bif r5.1.1 then (bif (eqI a20.1 a12.1) then ((c158 (a24.2.2.1, ((0 : Int), (a12.1, ())))).bind fun r6 =>
         bif r6.1.1 then ((c176 (a24.2.2.2.1, (a12.1, ()))).bind fun r7 =>
          bif r7.1.1 then ((c177 (a24.2.2.2.2.1, (a12.1, ()))).bind fun r8 =>
           some (r8.1, ()))
          else no)
         else no)
        else no)
       else no)
      else no)
     else no)
    else no)
   else no)
  else no
theorem s94 (c175 : F175) (c153 : F153) (c151 : F151) (c152 : F152) (c174 : F174) (c176 : F176) (c156 : F156) (c177 : F177) (c158 : F158) (y) : TE [g175 c175, g153 c153, g151 c151, g152 c152, g174 c174, g176 c176, g156 c156, g177 c177, g158 c158] Tryz.f94 i94 o94 y = m94 c175 c153 c151 c152 c174 c176 c156 c177 c158 y := by kernel_rfl
noncomputable def r94 : F94 := m94 r175 r153 r151 r152 r174 r176 r156 r177 r158 
theorem k94 : KO (g94 r94) := fk (s94 r175 r153 r151 r152 r174 r176 r156 r177 r158) ⟨k175, k153, k151, k152, k174, k176, k156, k177, k158, ⟨⟩⟩ (by kernel_rfl)
abbrev i95 : Ts := [.a q17]
abbrev o95 : Ts := [.a q18]
abbrev F95 := FT i95 o95
abbrev g95 := mkG 95 i95 o95
noncomputable def m95 (c179 : F179) (c146 : F146) (c147 : F147) (c148 : F148) (c178 : F178) (y : PTup i95) : Option (PTup o95 × BTup i95) :=
  let a0 := y.1; let a1 := a0.2; let a2 := a1.2; let a3 := a2.2; let a4 := a3.2; let a5 := a4.2; let a6 := a5.2; let a7 := a6.2; let a8 := a7.2; let a9 := a8.2; let a10 := a9.2; let a11 := a10.2; let a12 := a11.2; let a13 := a12.2; let a14 := a13.2; let a15 := a14.2; let a16 := a15.2; let a17 := a16.2; let a18 := a17.2; let a19 := a18.2; let a20 := a19.2; let a21 := a20.2; let a22 := a21.2; let a23 := a22.2; let a24 := a23.2; let a25 := a24.2.2; let a26 := a25.2.2; (c146 ((a0.1, ()), ())).bind fun r0 =>
  (c147 (a1.1, ())).bind fun r1 =>
  (c148 ((a2.1, (a3.1, ())), ())).bind fun r2 =>
  (c178 ((a12.1, (a13.1, (a14.1, (a15.1, (a16.1, (a17.1, (a18.1, (a19.1, ())))))))), ())).bind fun r3 =>
  (c179 (a26.2.2.2.1, ())).bind fun r4 =>
  (c147 (a26.2.2.2.2.1, ())).bind fun r5 =>
  (c147 a26.2.2.2.2.2).bind fun r6 =>
  some (((r0.1.1.1, (r1.1.1, (r2.1.1.1, (r2.1.1.2.1, (a4.1, (a5.1, (a6.1, (a7.1, (a8.1, (a9.1, (a10.1, (a11.1, (r3.1.1.1, (r3.1.1.2.1, (r3.1.1.2.2.1, (r3.1.1.2.2.2.1, (r3.1.1.2.2.2.2.1, (r3.1.1.2.2.2.2.2.1, (r3.1.1.2.2.2.2.2.2.1, (r3.1.1.2.2.2.2.2.2.2.1, (a20.1, (a21.1, (a22.1, (a23.1, (a24.1, (a24.2.1, (a25.1, (a25.2.1, (a26.1, (a26.2.1, (a26.2.2.1, (r4.1.1, (r5.1.1, r6.1))))))))))))))))))))))))))))))))), ()), ())
theorem s95 (c179 : F179) (c146 : F146) (c147 : F147) (c148 : F148) (c178 : F178) (y) : TE [g179 c179, g146 c146, g147 c147, g148 c148, g178 c178] Tryz.f95 i95 o95 y = m95 c179 c146 c147 c148 c178 y := by kernel_rfl
noncomputable def r95 : F95 := m95 r179 r146 r147 r148 r178 
theorem k95 : KO (g95 r95) := fk (s95 r179 r146 r147 r148 r178) ⟨k179, k146, k147, k148, k178, ⟨⟩⟩ (by kernel_rfl)
abbrev i299 : Ts := [.v (.int .i64)]
abbrev o299 : Ts := [.v (.int .i64)]
abbrev F299 := FT i299 o299
abbrev g299 := mkG 299 i299 o299
noncomputable def m299 (y : PTup i299) : Option (PTup o299 × BTup i299) :=
  some (((bAnd Go.IntKind.i64 y.1 (65535 : Int)), ()), ())
theorem s299 (y) : TE [] Tryz.f299 i299 o299 y = m299 y := by kernel_rfl
noncomputable def r299 : F299 := m299 
theorem k299 : KO (g299 r299) := fk (s299 ) trivial (by kernel_rfl)
abbrev i277 : Ts := [.v (.int .i64)]
abbrev o277 : Ts := [.v (.int .i64), .v (.int .i64)]
abbrev F277 := FT i277 o277
abbrev g277 := mkG 277 i277 o277
noncomputable def m277 (c299 : F299) (y : PTup i277) : Option (PTup o277 × BTup i277) :=
  (c299 y).bind fun r0 =>
  bif (ltI r0.1.1 8192) then (some (((1 : Int), ((Int.tmod r0.1.1 512), ())), ()))
  else bif (ltI r0.1.1 16384) then (some (((2 : Int), ((Int.tmod r0.1.1 8), ())), ()))
  else bif (ltI r0.1.1 16388) then (some (((3 : Int), ((Int.tmod r0.1.1 4), ())), ()))
  else bif (eqI r0.1.1 16406) then (some (((4 : Int), ((0 : Int), ())), ()))
  else bif (ltI r0.1.1 32768) then (some (((7 : Int), ((0 : Int), ())), ()))
  else bif (ltI r0.1.1 49152) then (some (((5 : Int), ((Int.tmod r0.1.1 256), ())), ()))
  else some (((6 : Int), ((Int.tmod r0.1.1 256), ())), ())
theorem s277 (c299 : F299) (y) : TE [g299 c299] Tryz.f277 i277 o277 y = m277 c299 y := by kernel_rfl
noncomputable def r277 : F277 := m277 r299 
theorem k277 : KO (g277 r277) := fk (s277 r299) ⟨k299, ⟨⟩⟩ (by kernel_rfl)
abbrev i247 : Ts := [.a q0, .a q1, .v (.int .i64)]
abbrev o247 : Ts := [.v (.int .i64)]
abbrev F247 := FT i247 o247
abbrev g247 := mkG 247 i247 o247
noncomputable def m247 (c277 : F277) (y : PTup i247) : Option (PTup o247 × BTup i247) :=
  (c277 y.2.2).bind fun r0 =>
  bif (eqI r0.1.1 1) then (bif (leI 0 r0.1.2.1) then (bif (ltI r0.1.2.1 (lenI y.2.1.1)) then (some (((rdE .i y.2.1.1 r0.1.2.1), ()), ()))
    else none)
   else none)
  else bif (eqI r0.1.1 5) then (bif (leI 0 y.2.1.2.1) then (bif (ltI y.2.1.2.1 (lenI y.1.1)) then (bif (leI 0 r0.1.2.1) then (bif (ltI r0.1.2.1 (lenI (rdE .n y.1.1 y.2.1.2.1))) then (some (((rdI (rdE .n y.1.1 y.2.1.2.1) r0.1.2.1), ()), ()))
      else none)
     else none)
    else none)
   else none)
  else bif (eqI r0.1.1 6) then (bif (leI 0 (wI ((lenI y.1.1) - 1))) then (bif (ltI (wI ((lenI y.1.1) - 1)) (lenI y.1.1)) then (bif (leI 0 r0.1.2.1) then (bif (ltI r0.1.2.1 (lenI (rdE .n y.1.1 (wI ((lenI y.1.1) - 1))))) then (some (((rdI (rdE .n y.1.1 (wI ((lenI y.1.1) - 1))) r0.1.2.1), ()), ()))
      else none)
     else none)
    else none)
   else none)
  else some (((0 : Int), ()), ())
theorem s247 (c277 : F277) (y) : TE [g277 c277] Tryz.f247 i247 o247 y = m247 c277 y := by kernel_rfl
noncomputable def r247 : F247 := m247 r277 
theorem k247 : KO (g247 r247) := fk (s247 r277) ⟨k277, ⟨⟩⟩ (by kernel_rfl)
abbrev i248 : Ts := [.v (.int .i64)]
abbrev o248 : Ts := [.v (.int .i64)]
abbrev F248 := FT i248 o248
abbrev g248 := mkG 248 i248 o248
noncomputable def m248 (c158 : F158) (y : PTup i248) : Option (PTup o248 × BTup i248) :=
  bif (eqI y.1 1) then (some (((2 : Int), ()), ()))
  else (c158 (y.1, ((4 : Int), ((9 : Int), ())))).bind fun r0 =>
  bif r0.1.1 then (some (((2 : Int), ()), ()))
  else bif (eqI y.1 2) then (some (((3 : Int), ()), ()))
  else bif (eqI y.1 3) then (some (((3 : Int), ()), ()))
  else (c158 (y.1, ((14 : Int), ((20 : Int), ())))).bind fun r1 =>
  bif r1.1.1 then (some (((3 : Int), ()), ()))
  else bif (eqI y.1 29) then (some (((3 : Int), ()), ()))
  else some (((1 : Int), ()), ())
theorem s248 (c158 : F158) (y) : TE [g158 c158] Tryz.f248 i248 o248 y = m248 c158 y := by kernel_rfl
noncomputable def r248 : F248 := m248 r158 
theorem k248 : KO (g248 r248) := fk (s248 r158) ⟨k158, ⟨⟩⟩ (by kernel_rfl)
abbrev i249 : Ts := [.v (.int .i64), .v (.int .i64)]
abbrev o249 : Ts := [.v (.int .i64)]
abbrev F249 := FT i249 o249
abbrev g249 := mkG 249 i249 o249
noncomputable def m249 (c294 : F294) (y : PTup i249) : Option (PTup o249 × BTup i249) :=
  (c294 (y.1, ())).bind fun r0 =>
  (c294 y.2).bind fun r1 =>
  some (((wI (r0.1.1 + (wI ((256 : Int) * r1.1.1)))), ()), ())
theorem s249 (c294 : F294) (y) : TE [g294 c294] Tryz.f249 i249 o249 y = m249 c294 y := by kernel_rfl
noncomputable def r249 : F249 := m249 r294 
theorem k249 : KO (g249 r249) := fk (s249 r294) ⟨k294, ⟨⟩⟩ (by kernel_rfl)
abbrev i180 : Ts := [.a q0, .a q1, .v (.int .i64)]
abbrev o180 : Ts := [.a q19]
abbrev F180 := FT i180 o180
abbrev g180 := mkG 180 i180 o180
noncomputable def m180 (c249 : F249) (c248 : F248) (c247 : F247) (y : PTup i180) : Option (PTup o180 × BTup i180) :=
  (c247 y).bind fun r0 =>
  (c248 r0.1).bind fun r1 =>
  bif (eqI r1.1.1 2) then ((c247 (y.1, (y.2.1, ((wI (y.2.2.1 + 1)), ())))).bind fun r2 =>
   some (((r0.1.1, r2.1), ()), ()))
  else bif (eqI r1.1.1 3) then ((c247 (y.1, (y.2.1, ((wI (y.2.2.1 + 1)), ())))).bind fun r2 =>
   (c247 (y.1, (y.2.1, ((wI (y.2.2.1 + 2)), ())))).bind fun r3 =>
   (c249 (r2.1.1, r3.1)).bind fun r4 =>
   some (((r0.1.1, r4.1), ()), ()))
  else some (((r0.1.1, ((0 : Int), ())), ()), ())
theorem s180 (c249 : F249) (c248 : F248) (c247 : F247) (y) : TE [g249 c249, g248 c248, g247 c247] Tryz.f180 i180 o180 y = m180 c249 c248 c247 y := by kernel_rfl
noncomputable def r180 : F180 := m180 r249 r248 r247 
theorem k180 : KO (g180 r180) := fk (s180 r249 r248 r247) ⟨k249, k248, k247, ⟨⟩⟩ (by kernel_rfl)
end Go.Proofs.YtanoofbkhddokaaGreat.Plain
