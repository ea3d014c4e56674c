/- Plain functions that the program's functions answer as; their contracts. Printed by a program of the proofs' writer. No condition. -/
import Derived.Test.YtmgdknbellgpnaaUf
import Derived.KernelRfl
import Derived.Test.YtmgdknbellgpnaaProg
set_option linter.unusedVariables false
set_option linter.unusedSimpArgs false
set_option maxRecDepth 100000
namespace Go.Proofs.Ytmgdknbellgpnaa.Plain
open Go Go.Tev
theorem mixed : Go.Proofs.Try.prog.follows .mixedOrders = true := by kernel_rfl
/- loop.example/g00231/laws.szIntS -/
@[reducible] def i28 : List Ty := [.v (.sl false .i), .v (.int .i64)]
@[reducible] def o28 : List Ty := [.v (.int .i64)]
noncomputable def m28   (y : PTup i28) : Option (PTup o28 × BTup i28) :=
  bif (ltI (wI (y.2.1 - (lenI y.1))) (0 : Int)) then (some (((-(1 : Int)), ()), ()))
  else some (((wI (y.2.1 - (lenI y.1))), ()), ())
noncomputable def E28   : CEnv := ⟨⟨Go.Proofs.Try.prog, fnsL []⟩, loopsL []⟩
theorem s28   (y) : tevF (E28  ) Go.Proofs.Try.f28 i28 o28 y = m28   y := by kernel_rfl
noncomputable def r28 : PTup i28 → Option (PTup o28 × BTup i28) := m28  
theorem k28 : CallOk Go.Proofs.Try.prog 28 ⟨i28, o28, r28⟩ := by
  have hE : ∀ g f, (E28  ).env.fns g = some f → CallOk Go.Proofs.Try.prog g f := fnsL_ok trivial
  exact fn_ok (E := E28  ) rfl hE mixed (by kernel_rfl) (by kernel_rfl) (AllLoops.of_list (l := []) (by kernel_rfl) trivial) (s28  )
/- loop.example/g00231/laws.szIntSS -/
@[reducible] def i27 : List Ty := [.v (.sl false .n), .v (.int .i64)]
@[reducible] def o27 : List Ty := [.v (.int .i64)]
@[reducible] def lc27_0 : List Ty := [.v (.sl false .n)]
@[reducible] def lb27_0 : List Ty := []
@[reducible] def lv27_0 : List Ty := [.v (.int .i64), .v (.int .i64)]
@[reducible] def lr27_0 : List Ty := [.v (.int .i64)]
noncomputable def w27_0 (c28 : PTup i28 → Option (PTup o28 × BTup i28))  (again : PTup lb27_0 → PTup lv27_0 → Option (Sum (PTup lv27_0) (PTup lr27_0) × BTup lb27_0)) (x : PTup lc27_0) (y : PTup lb27_0) (z : PTup lv27_0) : Option (Sum (PTup lv27_0) (PTup lr27_0) × BTup lb27_0) :=
  bif (ltI z.2.1 (lenI x.1)) then (bif (leI (0 : Int) z.2.1) then (bif (ltI z.2.1 (lenI x.1)) then ((c28 ((rdE .n x.1 z.2.1), (z.1, ()))).bind fun r0 =>
     bif (ltI r0.1.1 (0 : Int)) then (some ((Sum.inr ((-(1 : Int)), ())), ()))
     else again () (r0.1.1, ((wI (z.2.1 + (1 : Int))), ())))
    else none)
   else none)
  else some ((Sum.inl z), ())
noncomputable def e27_0 (l : PTup lc27_0 → PTup lb27_0 → PTup lv27_0 → Option (Sum (PTup lv27_0) (PTup lr27_0) × BTup lb27_0)) : LoopE := ⟨[0], lc27_0, [], lb27_0, [1, 5], lv27_0, [4], lr27_0, 0, l⟩
noncomputable def m27 (c28 : PTup i28 → Option (PTup o28 × BTup i28)) (l0 : PTup lc27_0 → PTup lb27_0 → PTup lv27_0 → Option (Sum (PTup lv27_0) (PTup lr27_0) × BTup lb27_0)) (y : PTup i27) : Option (PTup o27 × BTup i27) :=
  bif (ltI (wI (y.2.1 - (lenI y.1))) (0 : Int)) then (some (((-(1 : Int)), ()), ()))
  else (l0 (y.1, ()) () ((wI (y.2.1 - (lenI y.1))), ((0 : Int), ()))).bind fun r0 =>
  sumElim r0.1 (fun r1 => some ((r1.1, ()), ()))
  (fun r1 => some (r1, ()))
noncomputable def E27 (c28 : PTup i28 → Option (PTup o28 × BTup i28)) (l0 : PTup lc27_0 → PTup lb27_0 → PTup lv27_0 → Option (Sum (PTup lv27_0) (PTup lr27_0) × BTup lb27_0)) : CEnv := ⟨⟨Go.Proofs.Try.prog, fnsL [(28, ⟨i28, o28, c28⟩)]⟩, loopsL [(5, e27_0 l0)]⟩
theorem t27_0 (c28 : PTup i28 → Option (PTup o28 × BTup i28)) (l0 : PTup lc27_0 → PTup lb27_0 → PTup lv27_0 → Option (Sum (PTup lv27_0) (PTup lr27_0) × BTup lb27_0)) (again) (x y z) : loopRound (E27 c28 l0) (loopAt (bodyOf Go.Proofs.Try.f27) 0) (e27_0 l0) Go.Proofs.Try.f27.ntmps again x y z = w27_0 c28  again x y z := by kernel_rfl
noncomputable def n27_0 (c28 : PTup i28 → Option (PTup o28 × BTup i28))  : Nat → PTup lc27_0 → PTup lb27_0 → PTup lv27_0 → Option (Sum (PTup lv27_0) (PTup lr27_0) × BTup lb27_0)
  | 0, _, _, _ => none
  | n + 1, x, y, z => w27_0 c28  (fun y z => n27_0 c28  n x y z) x y z
theorem s27 (c28 : PTup i28 → Option (PTup o28 × BTup i28)) (l0 : PTup lc27_0 → PTup lb27_0 → PTup lv27_0 → Option (Sum (PTup lv27_0) (PTup lr27_0) × BTup lb27_0)) (y) : tevF (E27 c28 l0) Go.Proofs.Try.f27 i27 o27 y = m27 c28 l0 y := by kernel_rfl
noncomputable def L27_0 : PTup lc27_0 → PTup lb27_0 → PTup lv27_0 → Option (Sum (PTup lv27_0) (PTup lr27_0) × BTup lb27_0) := n27_0 r28  fuel
noncomputable def r27 : PTup i27 → Option (PTup o27 × BTup i27) := m27 r28 L27_0
theorem k27 : CallOk Go.Proofs.Try.prog 27 ⟨i27, o27, r27⟩ := by
  have hE : ∀ g f, (E27 r28 L27_0).env.fns g = some f → CallOk Go.Proofs.Try.prog g f := fnsL_ok ⟨k28, trivial⟩
  have h0 : LoopOk Go.Proofs.Try.prog Go.Proofs.Try.f27.ntmps (loopAt (bodyOf Go.Proofs.Try.f27) 0) (e27_0 L27_0) := lp_ok (E := E27 r28 L27_0) rfl hE mixed (AllLoops.of_list (l := []) (by kernel_rfl) trivial) (n27_0 r28 ) (fun _ _ _ => rfl) (fun n x y z => t27_0 r28 L27_0 _ x y z) rfl
  exact fn_ok (E := E27 r28 L27_0) rfl hE mixed (by kernel_rfl) (by kernel_rfl) (AllLoops.of_list (l := [(loopAt (bodyOf Go.Proofs.Try.f27) 0)]) (by kernel_rfl) (.one (by kernel_rfl) h0 trivial)) (s27 r28 L27_0)
/- loop.example/g00231/laws.szObs -/
@[reducible] def i18 : List Ty := [.a [.sl false .n, .sl false .i, .sl false .i], .v (.int .i64)]
@[reducible] def o18 : List Ty := [.v (.int .i64)]
noncomputable def m18 (c27 : PTup i27 → Option (PTup o27 × BTup i27)) (c28 : PTup i28 → Option (PTup o28 × BTup i28))  (y : PTup i18) : Option (PTup o18 × BTup i18) :=
  (c27 (y.1.1, y.2)).bind fun r0 =>
  bif (ltI r0.1.1 (0 : Int)) then (some (((-(1 : Int)), ()), ()))
  else (c28 (y.1.2.1, r0.1)).bind fun r1 =>
  bif (ltI r1.1.1 (0 : Int)) then (some (((-(1 : Int)), ()), ()))
  else (c28 (y.1.2.2.1, r1.1)).bind fun r2 =>
  bif (ltI r2.1.1 (0 : Int)) then (some (((-(1 : Int)), ()), ()))
  else some (r2.1, ())
noncomputable def E18 (c27 : PTup i27 → Option (PTup o27 × BTup i27)) (c28 : PTup i28 → Option (PTup o28 × BTup i28))  : CEnv := ⟨⟨Go.Proofs.Try.prog, fnsL [(27, ⟨i27, o27, c27⟩), (28, ⟨i28, o28, c28⟩)]⟩, loopsL []⟩
theorem s18 (c27 : PTup i27 → Option (PTup o27 × BTup i27)) (c28 : PTup i28 → Option (PTup o28 × BTup i28))  (y) : tevF (E18 c27 c28 ) Go.Proofs.Try.f18 i18 o18 y = m18 c27 c28  y := by kernel_rfl
noncomputable def r18 : PTup i18 → Option (PTup o18 × BTup i18) := m18 r27 r28 
theorem k18 : CallOk Go.Proofs.Try.prog 18 ⟨i18, o18, r18⟩ := by
  have hE : ∀ g f, (E18 r27 r28 ).env.fns g = some f → CallOk Go.Proofs.Try.prog g f := fnsL_ok ⟨k27, k28, trivial⟩
  exact fn_ok (E := E18 r27 r28 ) rfl hE mixed (by kernel_rfl) (by kernel_rfl) (AllLoops.of_list (l := []) (by kernel_rfl) trivial) (s18 r27 r28 )
/- loop.example/g00231/laws.toIntS -/
@[reducible] def i9 : List Ty := [.v (.sl false .i)]
@[reducible] def o9 : List Ty := [.v (.sl true .i)]
@[reducible] def lc9_0 : List Ty := [.v (.sl false .i)]
@[reducible] def lb9_0 : List Ty := []
@[reducible] def lv9_0 : List Ty := [.v (.int .i64), .v (.sl true .i)]
@[reducible] def lr9_0 : List Ty := []
noncomputable def w9_0   (again : PTup lb9_0 → PTup lv9_0 → Option (Sum (PTup lv9_0) (PTup lr9_0) × BTup lb9_0)) (x : PTup lc9_0) (y : PTup lb9_0) (z : PTup lv9_0) : Option (Sum (PTup lv9_0) (PTup lr9_0) × BTup lb9_0) :=
  bif (ltI z.1 (lenI x.1)) then (bif (leI (0 : Int) z.1) then (bif (ltI z.1 (lenI x.1)) then (bif (leI (0 : Int) z.1) then (bif (ltI z.1 (lenI z.2.1)) then (again () ((wI (z.1 + (1 : Int))), ((List.set z.2.1 (Int.toNat z.1) (rdE .i x.1 z.1)), ())))
      else none)
     else none)
    else none)
   else none)
  else some ((Sum.inl z), ())
noncomputable def e9_0 (l : PTup lc9_0 → PTup lb9_0 → PTup lv9_0 → Option (Sum (PTup lv9_0) (PTup lr9_0) × BTup lb9_0)) : LoopE := ⟨[0], lc9_0, [], lb9_0, [4, 3], lv9_0, [], lr9_0, 0, l⟩
noncomputable def m9  (l0 : PTup lc9_0 → PTup lb9_0 → PTup lv9_0 → Option (Sum (PTup lv9_0) (PTup lr9_0) × BTup lb9_0)) (y : PTup i9) : Option (PTup o9 × BTup i9) :=
  bif (leN (Int.toNat (lenI y.1)) (E.most .i)) then ((l0 y () ((0 : Int), ((List.replicate (Int.toNat (lenI y.1)) (0 : Int)), ()))).bind fun r0 =>
   sumElim r0.1 (fun r1 => some (r1.2, ()))
   (fun r1 => some (([], ()), ())))
  else none
noncomputable def E9  (l0 : PTup lc9_0 → PTup lb9_0 → PTup lv9_0 → Option (Sum (PTup lv9_0) (PTup lr9_0) × BTup lb9_0)) : CEnv := ⟨⟨Go.Proofs.Try.prog, fnsL []⟩, loopsL [(3, e9_0 l0)]⟩
theorem t9_0  (l0 : PTup lc9_0 → PTup lb9_0 → PTup lv9_0 → Option (Sum (PTup lv9_0) (PTup lr9_0) × BTup lb9_0)) (again) (x y z) : loopRound (E9  l0) (loopAt (bodyOf Go.Proofs.Try.f9) 0) (e9_0 l0) Go.Proofs.Try.f9.ntmps again x y z = w9_0   again x y z := by kernel_rfl
noncomputable def n9_0   : Nat → PTup lc9_0 → PTup lb9_0 → PTup lv9_0 → Option (Sum (PTup lv9_0) (PTup lr9_0) × BTup lb9_0)
  | 0, _, _, _ => none
  | n + 1, x, y, z => w9_0   (fun y z => n9_0   n x y z) x y z
theorem s9  (l0 : PTup lc9_0 → PTup lb9_0 → PTup lv9_0 → Option (Sum (PTup lv9_0) (PTup lr9_0) × BTup lb9_0)) (y) : tevF (E9  l0) Go.Proofs.Try.f9 i9 o9 y = m9  l0 y := by kernel_rfl
noncomputable def L9_0 : PTup lc9_0 → PTup lb9_0 → PTup lv9_0 → Option (Sum (PTup lv9_0) (PTup lr9_0) × BTup lb9_0) := n9_0   fuel
noncomputable def r9 : PTup i9 → Option (PTup o9 × BTup i9) := m9  L9_0
theorem k9 : CallOk Go.Proofs.Try.prog 9 ⟨i9, o9, r9⟩ := by
  have hE : ∀ g f, (E9  L9_0).env.fns g = some f → CallOk Go.Proofs.Try.prog g f := fnsL_ok trivial
  have h0 : LoopOk Go.Proofs.Try.prog Go.Proofs.Try.f9.ntmps (loopAt (bodyOf Go.Proofs.Try.f9) 0) (e9_0 L9_0) := lp_ok (E := E9  L9_0) rfl hE mixed (AllLoops.of_list (l := []) (by kernel_rfl) trivial) (n9_0  ) (fun _ _ _ => rfl) (fun n x y z => t9_0  L9_0 _ x y z) rfl
  exact fn_ok (E := E9  L9_0) rfl hE mixed (by kernel_rfl) (by kernel_rfl) (AllLoops.of_list (l := [(loopAt (bodyOf Go.Proofs.Try.f9) 0)]) (by kernel_rfl) (.one (by kernel_rfl) h0 trivial)) (s9  L9_0)
/- loop.example/g00231/laws.toIntSS -/
@[reducible] def i29 : List Ty := [.v (.sl false .n)]
@[reducible] def o29 : List Ty := [.v (.sl true .n)]
@[reducible] def lc29_0 : List Ty := [.v (.sl false .n)]
@[reducible] def lb29_0 : List Ty := []
@[reducible] def lv29_0 : List Ty := [.v (.int .i64), .v (.sl true .n)]
@[reducible] def lr29_0 : List Ty := []
noncomputable def w29_0 (c9 : PTup i9 → Option (PTup o9 × BTup i9))  (again : PTup lb29_0 → PTup lv29_0 → Option (Sum (PTup lv29_0) (PTup lr29_0) × BTup lb29_0)) (x : PTup lc29_0) (y : PTup lb29_0) (z : PTup lv29_0) : Option (Sum (PTup lv29_0) (PTup lr29_0) × BTup lb29_0) :=
  bif (ltI z.1 (lenI x.1)) then (bif (leI (0 : Int) z.1) then (bif (ltI z.1 (lenI x.1)) then ((c9 ((rdE .n x.1 z.1), ())).bind fun r0 =>
     bif (leI (0 : Int) z.1) then (bif (ltI z.1 (lenI z.2.1)) then (again () ((wI (z.1 + (1 : Int))), ((List.set z.2.1 (Int.toNat z.1) r0.1.1), ())))
      else none)
     else none)
    else none)
   else none)
  else some ((Sum.inl z), ())
noncomputable def e29_0 (l : PTup lc29_0 → PTup lb29_0 → PTup lv29_0 → Option (Sum (PTup lv29_0) (PTup lr29_0) × BTup lb29_0)) : LoopE := ⟨[0], lc29_0, [], lb29_0, [4, 3], lv29_0, [], lr29_0, 0, l⟩
noncomputable def m29 (c9 : PTup i9 → Option (PTup o9 × BTup i9)) (l0 : PTup lc29_0 → PTup lb29_0 → PTup lv29_0 → Option (Sum (PTup lv29_0) (PTup lr29_0) × BTup lb29_0)) (y : PTup i29) : Option (PTup o29 × BTup i29) :=
  bif (leN (Int.toNat (lenI y.1)) (E.most .n)) then ((l0 y () ((0 : Int), ((List.replicate (Int.toNat (lenI y.1)) []), ()))).bind fun r0 =>
   sumElim r0.1 (fun r1 => some (r1.2, ()))
   (fun r1 => some (([], ()), ())))
  else none
noncomputable def E29 (c9 : PTup i9 → Option (PTup o9 × BTup i9)) (l0 : PTup lc29_0 → PTup lb29_0 → PTup lv29_0 → Option (Sum (PTup lv29_0) (PTup lr29_0) × BTup lb29_0)) : CEnv := ⟨⟨Go.Proofs.Try.prog, fnsL [(9, ⟨i9, o9, c9⟩)]⟩, loopsL [(3, e29_0 l0)]⟩
theorem t29_0 (c9 : PTup i9 → Option (PTup o9 × BTup i9)) (l0 : PTup lc29_0 → PTup lb29_0 → PTup lv29_0 → Option (Sum (PTup lv29_0) (PTup lr29_0) × BTup lb29_0)) (again) (x y z) : loopRound (E29 c9 l0) (loopAt (bodyOf Go.Proofs.Try.f29) 0) (e29_0 l0) Go.Proofs.Try.f29.ntmps again x y z = w29_0 c9  again x y z := by kernel_rfl
noncomputable def n29_0 (c9 : PTup i9 → Option (PTup o9 × BTup i9))  : Nat → PTup lc29_0 → PTup lb29_0 → PTup lv29_0 → Option (Sum (PTup lv29_0) (PTup lr29_0) × BTup lb29_0)
  | 0, _, _, _ => none
  | n + 1, x, y, z => w29_0 c9  (fun y z => n29_0 c9  n x y z) x y z
theorem s29 (c9 : PTup i9 → Option (PTup o9 × BTup i9)) (l0 : PTup lc29_0 → PTup lb29_0 → PTup lv29_0 → Option (Sum (PTup lv29_0) (PTup lr29_0) × BTup lb29_0)) (y) : tevF (E29 c9 l0) Go.Proofs.Try.f29 i29 o29 y = m29 c9 l0 y := by kernel_rfl
noncomputable def L29_0 : PTup lc29_0 → PTup lb29_0 → PTup lv29_0 → Option (Sum (PTup lv29_0) (PTup lr29_0) × BTup lb29_0) := n29_0 r9  fuel
noncomputable def r29 : PTup i29 → Option (PTup o29 × BTup i29) := m29 r9 L29_0
theorem k29 : CallOk Go.Proofs.Try.prog 29 ⟨i29, o29, r29⟩ := by
  have hE : ∀ g f, (E29 r9 L29_0).env.fns g = some f → CallOk Go.Proofs.Try.prog g f := fnsL_ok ⟨k9, trivial⟩
  have h0 : LoopOk Go.Proofs.Try.prog Go.Proofs.Try.f29.ntmps (loopAt (bodyOf Go.Proofs.Try.f29) 0) (e29_0 L29_0) := lp_ok (E := E29 r9 L29_0) rfl hE mixed (AllLoops.of_list (l := []) (by kernel_rfl) trivial) (n29_0 r9 ) (fun _ _ _ => rfl) (fun n x y z => t29_0 r9 L29_0 _ x y z) rfl
  exact fn_ok (E := E29 r9 L29_0) rfl hE mixed (by kernel_rfl) (by kernel_rfl) (AllLoops.of_list (l := [(loopAt (bodyOf Go.Proofs.Try.f29) 0)]) (by kernel_rfl) (.one (by kernel_rfl) h0 trivial)) (s29 r9 L29_0)
/- loop.example/g00231/laws.toObs -/
@[reducible] def i20 : List Ty := [.a [.sl false .n, .sl false .i, .sl false .i]]
@[reducible] def o20 : List Ty := [.a [.sl true .n, .sl true .i, .sl true .i]]
noncomputable def m20 (c9 : PTup i9 → Option (PTup o9 × BTup i9)) (c29 : PTup i29 → Option (PTup o29 × BTup i29))  (y : PTup i20) : Option (PTup o20 × BTup i20) :=
  (c29 (y.1.1, ())).bind fun r0 =>
  (c9 (y.1.2.1, ())).bind fun r1 =>
  (c9 y.1.2.2).bind fun r2 =>
  some (((r0.1.1, (r1.1.1, r2.1)), ()), ())
noncomputable def E20 (c9 : PTup i9 → Option (PTup o9 × BTup i9)) (c29 : PTup i29 → Option (PTup o29 × BTup i29))  : CEnv := ⟨⟨Go.Proofs.Try.prog, fnsL [(9, ⟨i9, o9, c9⟩), (29, ⟨i29, o29, c29⟩)]⟩, loopsL []⟩
theorem s20 (c9 : PTup i9 → Option (PTup o9 × BTup i9)) (c29 : PTup i29 → Option (PTup o29 × BTup i29))  (y) : tevF (E20 c9 c29 ) Go.Proofs.Try.f20 i20 o20 y = m20 c9 c29  y := by kernel_rfl
noncomputable def r20 : PTup i20 → Option (PTup o20 × BTup i20) := m20 r9 r29 
theorem k20 : CallOk Go.Proofs.Try.prog 20 ⟨i20, o20, r20⟩ := by
  have hE : ∀ g f, (E20 r9 r29 ).env.fns g = some f → CallOk Go.Proofs.Try.prog g f := fnsL_ok ⟨k9, k29, trivial⟩
  exact fn_ok (E := E20 r9 r29 ) rfl hE mixed (by kernel_rfl) (by kernel_rfl) (AllLoops.of_list (l := []) (by kernel_rfl) trivial) (s20 r9 r29 )
/- loop.example/g00231/spec.l17Begins -/
@[reducible] def i34 : List Ty := [.v (.sl false .i), .v (.sl false .i)]
@[reducible] def o34 : List Ty := [.v (.bool)]
@[reducible] def lc34_0 : List Ty := [.v (.sl false .i), .v (.sl false .i)]
@[reducible] def lb34_0 : List Ty := []
@[reducible] def lv34_0 : List Ty := [.v (.int .i64)]
@[reducible] def lr34_0 : List Ty := [.v (.bool)]
noncomputable def w34_0   (again : PTup lb34_0 → PTup lv34_0 → Option (Sum (PTup lv34_0) (PTup lr34_0) × BTup lb34_0)) (x : PTup lc34_0) (y : PTup lb34_0) (z : PTup lv34_0) : Option (Sum (PTup lv34_0) (PTup lr34_0) × BTup lb34_0) :=
  bif (ltI z.1 (lenI x.1)) then (bif (ltI z.1 (lenI x.2.1)) then (bif (leI (0 : Int) z.1) then (bif (ltI z.1 (lenI x.1)) then (bif (leI (0 : Int) z.1) then (bif (ltI z.1 (lenI x.2.1)) then (bif (neI (rdE .i x.1 z.1) (rdE .i x.2.1 z.1)) then (some ((Sum.inr (false, ())), ()))
        else again () ((wI (z.1 + (1 : Int))), ()))
       else none)
      else none)
     else none)
    else none)
   else some ((Sum.inl z), ()))
  else some ((Sum.inl z), ())
noncomputable def e34_0 (l : PTup lc34_0 → PTup lb34_0 → PTup lv34_0 → Option (Sum (PTup lv34_0) (PTup lr34_0) × BTup lb34_0)) : LoopE := ⟨[0, 1], lc34_0, [], lb34_0, [5], lv34_0, [4], lr34_0, 0, l⟩
noncomputable def m34  (l0 : PTup lc34_0 → PTup lb34_0 → PTup lv34_0 → Option (Sum (PTup lv34_0) (PTup lr34_0) × BTup lb34_0)) (y : PTup i34) : Option (PTup o34 × BTup i34) :=
  (l0 y () ((0 : Int), ())).bind fun r0 =>
  sumElim r0.1 (fun r1 => some (((leI (lenI y.1) (lenI y.2.1)), ()), ()))
  (fun r1 => some (r1, ()))
noncomputable def E34  (l0 : PTup lc34_0 → PTup lb34_0 → PTup lv34_0 → Option (Sum (PTup lv34_0) (PTup lr34_0) × BTup lb34_0)) : CEnv := ⟨⟨Go.Proofs.Try.prog, fnsL []⟩, loopsL [(2, e34_0 l0)]⟩
theorem t34_0  (l0 : PTup lc34_0 → PTup lb34_0 → PTup lv34_0 → Option (Sum (PTup lv34_0) (PTup lr34_0) × BTup lb34_0)) (again) (x y z) : loopRound (E34  l0) (loopAt (bodyOf Go.Proofs.Try.f34) 0) (e34_0 l0) Go.Proofs.Try.f34.ntmps again x y z = w34_0   again x y z := by kernel_rfl
noncomputable def n34_0   : Nat → PTup lc34_0 → PTup lb34_0 → PTup lv34_0 → Option (Sum (PTup lv34_0) (PTup lr34_0) × BTup lb34_0)
  | 0, _, _, _ => none
  | n + 1, x, y, z => w34_0   (fun y z => n34_0   n x y z) x y z
theorem s34  (l0 : PTup lc34_0 → PTup lb34_0 → PTup lv34_0 → Option (Sum (PTup lv34_0) (PTup lr34_0) × BTup lb34_0)) (y) : tevF (E34  l0) Go.Proofs.Try.f34 i34 o34 y = m34  l0 y := by kernel_rfl
noncomputable def L34_0 : PTup lc34_0 → PTup lb34_0 → PTup lv34_0 → Option (Sum (PTup lv34_0) (PTup lr34_0) × BTup lb34_0) := n34_0   fuel
noncomputable def r34 : PTup i34 → Option (PTup o34 × BTup i34) := m34  L34_0
theorem k34 : CallOk Go.Proofs.Try.prog 34 ⟨i34, o34, r34⟩ := by
  have hE : ∀ g f, (E34  L34_0).env.fns g = some f → CallOk Go.Proofs.Try.prog g f := fnsL_ok trivial
  have h0 : LoopOk Go.Proofs.Try.prog Go.Proofs.Try.f34.ntmps (loopAt (bodyOf Go.Proofs.Try.f34) 0) (e34_0 L34_0) := lp_ok (E := E34  L34_0) rfl hE mixed (AllLoops.of_list (l := []) (by kernel_rfl) trivial) (n34_0  ) (fun _ _ _ => rfl) (fun n x y z => t34_0  L34_0 _ x y z) rfl
  exact fn_ok (E := E34  L34_0) rfl hE mixed (by kernel_rfl) (by kernel_rfl) (AllLoops.of_list (l := [(loopAt (bodyOf Go.Proofs.Try.f34) 0)]) (by kernel_rfl) (.one (by kernel_rfl) h0 trivial)) (s34  L34_0)
/- loop.example/g00231/spec.l17Same -/
@[reducible] def i35 : List Ty := [.v (.sl false .i), .v (.sl false .i)]
@[reducible] def o35 : List Ty := [.v (.bool)]
noncomputable def m35 (c34 : PTup i34 → Option (PTup o34 × BTup i34))  (y : PTup i35) : Option (PTup o35 × BTup i35) :=
  bif (eqI (lenI y.1) (lenI y.2.1)) then ((c34 y).bind fun r0 =>
   some (r0.1, ()))
  else some ((false, ()), ())
noncomputable def E35 (c34 : PTup i34 → Option (PTup o34 × BTup i34))  : CEnv := ⟨⟨Go.Proofs.Try.prog, fnsL [(34, ⟨i34, o34, c34⟩)]⟩, loopsL []⟩
theorem s35 (c34 : PTup i34 → Option (PTup o34 × BTup i34))  (y) : tevF (E35 c34 ) Go.Proofs.Try.f35 i35 o35 y = m35 c34  y := by kernel_rfl
noncomputable def r35 : PTup i35 → Option (PTup o35 × BTup i35) := m35 r34 
theorem k35 : CallOk Go.Proofs.Try.prog 35 ⟨i35, o35, r35⟩ := by
  have hE : ∀ g f, (E35 r34 ).env.fns g = some f → CallOk Go.Proofs.Try.prog g f := fnsL_ok ⟨k34, trivial⟩
  exact fn_ok (E := E35 r34 ) rfl hE mixed (by kernel_rfl) (by kernel_rfl) (AllLoops.of_list (l := []) (by kernel_rfl) trivial) (s35 r34 )
/- loop.example/g00231/spec.ObsBegins -/
@[reducible] def i23 : List Ty := [.a [.sl false .n, .sl false .i, .sl false .i], .a [.sl false .n, .sl false .i, .sl false .i]]
@[reducible] def o23 : List Ty := [.v (.bool)]
@[reducible] def lc23_0 : List Ty := []
@[reducible] def lb23_0 : List Ty := [.p [.sl false .n, .sl false .i, .sl false .i], .p [.sl false .n, .sl false .i, .sl false .i]]
@[reducible] def lv23_0 : List Ty := [.v (.int .i64)]
@[reducible] def lr23_0 : List Ty := [.v (.bool)]
noncomputable def w23_0 (c34 : PTup i34 → Option (PTup o34 × BTup i34)) (c35 : PTup i35 → Option (PTup o35 × BTup i35))  (again : PTup lb23_0 → PTup lv23_0 → Option (Sum (PTup lv23_0) (PTup lr23_0) × BTup lb23_0)) (x : PTup lc23_0) (y : PTup lb23_0) (z : PTup lv23_0) : Option (Sum (PTup lv23_0) (PTup lr23_0) × BTup lb23_0) :=
  bif (ltI z.1 (lenI y.1.1)) then (bif (leI (0 : Int) z.1) then (bif (ltI z.1 (lenI y.1.1)) then (bif (leI (0 : Int) z.1) then (bif (ltI z.1 (lenI y.2.1.1)) then ((c35 ((rdE .n y.1.1 z.1), ((rdE .n y.2.1.1 z.1), ()))).bind fun r0 =>
       bif (!r0.1.1) then (some ((Sum.inr (false, ())), (y.1, (y.2.1, ()))))
       else again (y.1, (y.2.1, ())) ((wI (z.1 + (1 : Int))), ()))
      else none)
     else none)
    else none)
   else none)
  else some ((Sum.inl z), (y.1, (y.2.1, ())))
noncomputable def e23_0 (l : PTup lc23_0 → PTup lb23_0 → PTup lv23_0 → Option (Sum (PTup lv23_0) (PTup lr23_0) × BTup lb23_0)) : LoopE := ⟨[], lc23_0, [2, 3], lb23_0, [5], lv23_0, [4], lr23_0, 0, l⟩
noncomputable def m23 (c34 : PTup i34 → Option (PTup o34 × BTup i34)) (c35 : PTup i35 → Option (PTup o35 × BTup i35)) (l0 : PTup lc23_0 → PTup lb23_0 → PTup lv23_0 → Option (Sum (PTup lv23_0) (PTup lr23_0) × BTup lb23_0)) (y : PTup i23) : Option (PTup o23 × BTup i23) :=
  bif (ltI (lenI y.2.1.1) (lenI y.1.1)) then (some ((false, ()), ()))
  else (c34 (y.1.2.1, (y.2.1.2.1, ()))).bind fun r0 =>
  bif (!r0.1.1) then (some ((false, ()), ()))
  else (c34 (y.1.2.2.1, y.2.1.2.2)).bind fun r1 =>
  bif (!r1.1.1) then (some ((false, ()), ()))
  else (l0 () (y.1, (y.2.1, ())) ((0 : Int), ())).bind fun r2 =>
  sumElim r2.1 (fun r3 => some ((true, ()), ()))
  (fun r3 => some (r3, ()))
noncomputable def E23 (c34 : PTup i34 → Option (PTup o34 × BTup i34)) (c35 : PTup i35 → Option (PTup o35 × BTup i35)) (l0 : PTup lc23_0 → PTup lb23_0 → PTup lv23_0 → Option (Sum (PTup lv23_0) (PTup lr23_0) × BTup lb23_0)) : CEnv := ⟨⟨Go.Proofs.Try.prog, fnsL [(34, ⟨i34, o34, c34⟩), (35, ⟨i35, o35, c35⟩)]⟩, loopsL [(4, e23_0 l0)]⟩
theorem t23_0 (c34 : PTup i34 → Option (PTup o34 × BTup i34)) (c35 : PTup i35 → Option (PTup o35 × BTup i35)) (l0 : PTup lc23_0 → PTup lb23_0 → PTup lv23_0 → Option (Sum (PTup lv23_0) (PTup lr23_0) × BTup lb23_0)) (again) (x y z) : loopRound (E23 c34 c35 l0) (loopAt (bodyOf Go.Proofs.Try.f23) 0) (e23_0 l0) Go.Proofs.Try.f23.ntmps again x y z = w23_0 c34 c35  again x y z := by kernel_rfl
noncomputable def n23_0 (c34 : PTup i34 → Option (PTup o34 × BTup i34)) (c35 : PTup i35 → Option (PTup o35 × BTup i35))  : Nat → PTup lc23_0 → PTup lb23_0 → PTup lv23_0 → Option (Sum (PTup lv23_0) (PTup lr23_0) × BTup lb23_0)
  | 0, _, _, _ => none
  | n + 1, x, y, z => w23_0 c34 c35  (fun y z => n23_0 c34 c35  n x y z) x y z
theorem s23 (c34 : PTup i34 → Option (PTup o34 × BTup i34)) (c35 : PTup i35 → Option (PTup o35 × BTup i35)) (l0 : PTup lc23_0 → PTup lb23_0 → PTup lv23_0 → Option (Sum (PTup lv23_0) (PTup lr23_0) × BTup lb23_0)) (y) : tevF (E23 c34 c35 l0) Go.Proofs.Try.f23 i23 o23 y = m23 c34 c35 l0 y := by kernel_rfl
noncomputable def L23_0 : PTup lc23_0 → PTup lb23_0 → PTup lv23_0 → Option (Sum (PTup lv23_0) (PTup lr23_0) × BTup lb23_0) := n23_0 r34 r35  fuel
noncomputable def r23 : PTup i23 → Option (PTup o23 × BTup i23) := m23 r34 r35 L23_0
theorem k23 : CallOk Go.Proofs.Try.prog 23 ⟨i23, o23, r23⟩ := by
  have hE : ∀ g f, (E23 r34 r35 L23_0).env.fns g = some f → CallOk Go.Proofs.Try.prog g f := fnsL_ok ⟨k34, k35, trivial⟩
  have h0 : LoopOk Go.Proofs.Try.prog Go.Proofs.Try.f23.ntmps (loopAt (bodyOf Go.Proofs.Try.f23) 0) (e23_0 L23_0) := lp_ok (E := E23 r34 r35 L23_0) rfl hE mixed (AllLoops.of_list (l := []) (by kernel_rfl) trivial) (n23_0 r34 r35 ) (fun _ _ _ => rfl) (fun n x y z => t23_0 r34 r35 L23_0 _ x y z) rfl
  exact fn_ok (E := E23 r34 r35 L23_0) rfl hE mixed (by kernel_rfl) (by kernel_rfl) (AllLoops.of_list (l := [(loopAt (bodyOf Go.Proofs.Try.f23) 0)]) (by kernel_rfl) (.one (by kernel_rfl) h0 trivial)) (s23 r34 r35 L23_0)
/- loop.example/g00231/spec.ObsSame -/
@[reducible] def i19 : List Ty := [.a [.sl false .n, .sl false .i, .sl false .i], .a [.sl false .n, .sl false .i, .sl false .i]]
@[reducible] def o19 : List Ty := [.v (.bool)]
noncomputable def m19 (c23 : PTup i23 → Option (PTup o23 × BTup i23))  (y : PTup i19) : Option (PTup o19 × BTup i19) :=
  (c23 (y.1, (y.2.1, ()))).bind fun r0 =>
  bif r0.1.1 then ((c23 (y.2.1, (y.1, ()))).bind fun r1 =>
   some (r1.1, ()))
  else some ((false, ()), ())
noncomputable def E19 (c23 : PTup i23 → Option (PTup o23 × BTup i23))  : CEnv := ⟨⟨Go.Proofs.Try.prog, fnsL [(23, ⟨i23, o23, c23⟩)]⟩, loopsL []⟩
theorem s19 (c23 : PTup i23 → Option (PTup o23 × BTup i23))  (y) : tevF (E19 c23 ) Go.Proofs.Try.f19 i19 o19 y = m19 c23  y := by kernel_rfl
noncomputable def r19 : PTup i19 → Option (PTup o19 × BTup i19) := m19 r23 
theorem k19 : CallOk Go.Proofs.Try.prog 19 ⟨i19, o19, r19⟩ := by
  have hE : ∀ g f, (E19 r23 ).env.fns g = some f → CallOk Go.Proofs.Try.prog g f := fnsL_ok ⟨k23, trivial⟩
  exact fn_ok (E := E19 r23 ) rfl hE mixed (by kernel_rfl) (by kernel_rfl) (AllLoops.of_list (l := []) (by kernel_rfl) trivial) (s19 r23 )
/- slices.Equal[[]int,int] -/
@[reducible] def i32 : List Ty := [.v (.sl false .i), .v (.sl false .i)]
@[reducible] def o32 : List Ty := [.v (.bool)]
@[reducible] def lc32_0 : List Ty := [.v (.sl false .i), .v (.sl false .i), .v (.int .i64)]
@[reducible] def lb32_0 : List Ty := []
@[reducible] def lv32_0 : List Ty := [.v (.int .i64)]
@[reducible] def lr32_0 : List Ty := [.v (.bool)]
noncomputable def w32_0   (again : PTup lb32_0 → PTup lv32_0 → Option (Sum (PTup lv32_0) (PTup lr32_0) × BTup lb32_0)) (x : PTup lc32_0) (y : PTup lb32_0) (z : PTup lv32_0) : Option (Sum (PTup lv32_0) (PTup lr32_0) × BTup lb32_0) :=
  bif (ltI z.1 x.2.2.1) then (bif (leI (0 : Int) z.1) then (bif (ltI z.1 (lenI x.1)) then (bif (leI (0 : Int) z.1) then (bif (ltI z.1 (lenI x.2.1)) then (bif (neI (rdE .i x.1 z.1) (rdE .i x.2.1 z.1)) then (some ((Sum.inr (false, ())), ()))
       else again () ((wI (z.1 + (1 : Int))), ()))
      else none)
     else none)
    else none)
   else none)
  else some ((Sum.inl z), ())
noncomputable def e32_0 (l : PTup lc32_0 → PTup lb32_0 → PTup lv32_0 → Option (Sum (PTup lv32_0) (PTup lr32_0) × BTup lb32_0)) : LoopE := ⟨[0, 1, 12], lc32_0, [], lb32_0, [13], lv32_0, [4], lr32_0, 0, l⟩
noncomputable def m32  (l0 : PTup lc32_0 → PTup lb32_0 → PTup lv32_0 → Option (Sum (PTup lv32_0) (PTup lr32_0) × BTup lb32_0)) (y : PTup i32) : Option (PTup o32 × BTup i32) :=
  bif (neI (lenI y.1) (lenI y.2.1)) then (some ((false, ()), ()))
  else (l0 (y.1, (y.2.1, ((lenI y.1), ()))) () ((0 : Int), ())).bind fun r0 =>
  sumElim r0.1 (fun r1 => some ((true, ()), ()))
  (fun r1 => some (r1, ()))
noncomputable def E32  (l0 : PTup lc32_0 → PTup lb32_0 → PTup lv32_0 → Option (Sum (PTup lv32_0) (PTup lr32_0) × BTup lb32_0)) : CEnv := ⟨⟨Go.Proofs.Try.prog, fnsL []⟩, loopsL [(4, e32_0 l0)]⟩
theorem t32_0  (l0 : PTup lc32_0 → PTup lb32_0 → PTup lv32_0 → Option (Sum (PTup lv32_0) (PTup lr32_0) × BTup lb32_0)) (again) (x y z) : loopRound (E32  l0) (loopAt (bodyOf Go.Proofs.Try.f32) 0) (e32_0 l0) Go.Proofs.Try.f32.ntmps again x y z = w32_0   again x y z := by kernel_rfl
noncomputable def n32_0   : Nat → PTup lc32_0 → PTup lb32_0 → PTup lv32_0 → Option (Sum (PTup lv32_0) (PTup lr32_0) × BTup lb32_0)
  | 0, _, _, _ => none
  | n + 1, x, y, z => w32_0   (fun y z => n32_0   n x y z) x y z
theorem s32  (l0 : PTup lc32_0 → PTup lb32_0 → PTup lv32_0 → Option (Sum (PTup lv32_0) (PTup lr32_0) × BTup lb32_0)) (y) : tevF (E32  l0) Go.Proofs.Try.f32 i32 o32 y = m32  l0 y := by kernel_rfl
noncomputable def L32_0 : PTup lc32_0 → PTup lb32_0 → PTup lv32_0 → Option (Sum (PTup lv32_0) (PTup lr32_0) × BTup lb32_0) := n32_0   fuel
noncomputable def r32 : PTup i32 → Option (PTup o32 × BTup i32) := m32  L32_0
theorem k32 : CallOk Go.Proofs.Try.prog 32 ⟨i32, o32, r32⟩ := by
  have hE : ∀ g f, (E32  L32_0).env.fns g = some f → CallOk Go.Proofs.Try.prog g f := fnsL_ok trivial
  have h0 : LoopOk Go.Proofs.Try.prog Go.Proofs.Try.f32.ntmps (loopAt (bodyOf Go.Proofs.Try.f32) 0) (e32_0 L32_0) := lp_ok (E := E32  L32_0) rfl hE mixed (AllLoops.of_list (l := []) (by kernel_rfl) trivial) (n32_0  ) (fun _ _ _ => rfl) (fun n x y z => t32_0  L32_0 _ x y z) rfl
  exact fn_ok (E := E32  L32_0) rfl hE mixed (by kernel_rfl) (by kernel_rfl) (AllLoops.of_list (l := [(loopAt (bodyOf Go.Proofs.Try.f32) 0)]) (by kernel_rfl) (.one (by kernel_rfl) h0 trivial)) (s32  L32_0)
/- loop.example/g00231/impl.ObsSame$1 -/
@[reducible] def i31 : List Ty := [.v (.sl false .i), .v (.sl false .i)]
@[reducible] def o31 : List Ty := [.v (.bool)]
noncomputable def m31 (c32 : PTup i32 → Option (PTup o32 × BTup i32))  (y : PTup i31) : Option (PTup o31 × BTup i31) :=
  (c32 y).bind fun r0 =>
  some (r0.1, ())
noncomputable def E31 (c32 : PTup i32 → Option (PTup o32 × BTup i32))  : CEnv := ⟨⟨Go.Proofs.Try.prog, fnsL [(32, ⟨i32, o32, c32⟩)]⟩, loopsL []⟩
theorem s31 (c32 : PTup i32 → Option (PTup o32 × BTup i32))  (y) : tevF (E31 c32 ) Go.Proofs.Try.f31 i31 o31 y = m31 c32  y := by kernel_rfl
noncomputable def r31 : PTup i31 → Option (PTup o31 × BTup i31) := m31 r32 
theorem k31 : CallOk Go.Proofs.Try.prog 31 ⟨i31, o31, r31⟩ := by
  have hE : ∀ g f, (E31 r32 ).env.fns g = some f → CallOk Go.Proofs.Try.prog g f := fnsL_ok ⟨k32, trivial⟩
  exact fn_ok (E := E31 r32 ) rfl hE mixed (by kernel_rfl) (by kernel_rfl) (AllLoops.of_list (l := []) (by kernel_rfl) trivial) (s31 r32 )
/- slices.EqualFunc[[][]int,[][]int,[]int,[]int] -/
@[reducible] def i30 : List Ty := [.v (.sl false .n), .v (.sl false .n), .v (.fn 31)]
@[reducible] def o30 : List Ty := [.v (.bool)]
@[reducible] def lc30_0 : List Ty := [.v (.sl false .n), .v (.fn 31), .v (.sl false .n), .v (.int .i64)]
@[reducible] def lb30_0 : List Ty := []
@[reducible] def lv30_0 : List Ty := [.v (.int .i64)]
@[reducible] def lr30_0 : List Ty := [.v (.bool)]
noncomputable def w30_0 (c31 : PTup i31 → Option (PTup o31 × BTup i31))  (again : PTup lb30_0 → PTup lv30_0 → Option (Sum (PTup lv30_0) (PTup lr30_0) × BTup lb30_0)) (x : PTup lc30_0) (y : PTup lb30_0) (z : PTup lv30_0) : Option (Sum (PTup lv30_0) (PTup lr30_0) × BTup lb30_0) :=
  bif (ltI z.1 x.2.2.2.1) then (bif (leI (0 : Int) z.1) then (bif (ltI z.1 (lenI x.2.2.1)) then (bif (leI (0 : Int) z.1) then (bif (ltI z.1 (lenI x.1)) then ((c31 ((rdE .n x.2.2.1 z.1), ((rdE .n x.1 z.1), ()))).bind fun r0 =>
       bif (!r0.1.1) then (some ((Sum.inr (false, ())), ()))
       else again () ((wI (z.1 + (1 : Int))), ()))
      else none)
     else none)
    else none)
   else none)
  else some ((Sum.inl z), ())
noncomputable def e30_0 (l : PTup lc30_0 → PTup lb30_0 → PTup lv30_0 → Option (Sum (PTup lv30_0) (PTup lr30_0) × BTup lb30_0)) : LoopE := ⟨[1, 2, 15, 16], lc30_0, [], lb30_0, [17], lv30_0, [6], lr30_0, 0, l⟩
noncomputable def m30 (c31 : PTup i31 → Option (PTup o31 × BTup i31)) (l0 : PTup lc30_0 → PTup lb30_0 → PTup lv30_0 → Option (Sum (PTup lv30_0) (PTup lr30_0) × BTup lb30_0)) (y : PTup i30) : Option (PTup o30 × BTup i30) :=
  bif (neI (lenI y.1) (lenI y.2.1)) then (some ((false, ()), ()))
  else (l0 (y.2.1, ((), (y.1, ((lenI y.1), ())))) () ((0 : Int), ())).bind fun r0 =>
  sumElim r0.1 (fun r1 => some ((true, ()), ()))
  (fun r1 => some (r1, ()))
noncomputable def E30 (c31 : PTup i31 → Option (PTup o31 × BTup i31)) (l0 : PTup lc30_0 → PTup lb30_0 → PTup lv30_0 → Option (Sum (PTup lv30_0) (PTup lr30_0) × BTup lb30_0)) : CEnv := ⟨⟨Go.Proofs.Try.prog, fnsL [(31, ⟨i31, o31, c31⟩)]⟩, loopsL [(4, e30_0 l0)]⟩
theorem t30_0 (c31 : PTup i31 → Option (PTup o31 × BTup i31)) (l0 : PTup lc30_0 → PTup lb30_0 → PTup lv30_0 → Option (Sum (PTup lv30_0) (PTup lr30_0) × BTup lb30_0)) (again) (x y z) : loopRound (E30 c31 l0) (loopAt (bodyOf Go.Proofs.Try.f30) 0) (e30_0 l0) Go.Proofs.Try.f30.ntmps again x y z = w30_0 c31  again x y z := by kernel_rfl
noncomputable def n30_0 (c31 : PTup i31 → Option (PTup o31 × BTup i31))  : Nat → PTup lc30_0 → PTup lb30_0 → PTup lv30_0 → Option (Sum (PTup lv30_0) (PTup lr30_0) × BTup lb30_0)
  | 0, _, _, _ => none
  | n + 1, x, y, z => w30_0 c31  (fun y z => n30_0 c31  n x y z) x y z
theorem s30 (c31 : PTup i31 → Option (PTup o31 × BTup i31)) (l0 : PTup lc30_0 → PTup lb30_0 → PTup lv30_0 → Option (Sum (PTup lv30_0) (PTup lr30_0) × BTup lb30_0)) (y) : tevF (E30 c31 l0) Go.Proofs.Try.f30 i30 o30 y = m30 c31 l0 y := by kernel_rfl
noncomputable def L30_0 : PTup lc30_0 → PTup lb30_0 → PTup lv30_0 → Option (Sum (PTup lv30_0) (PTup lr30_0) × BTup lb30_0) := n30_0 r31  fuel
noncomputable def r30 : PTup i30 → Option (PTup o30 × BTup i30) := m30 r31 L30_0
theorem k30 : CallOk Go.Proofs.Try.prog 30 ⟨i30, o30, r30⟩ := by
  have hE : ∀ g f, (E30 r31 L30_0).env.fns g = some f → CallOk Go.Proofs.Try.prog g f := fnsL_ok ⟨k31, trivial⟩
  have h0 : LoopOk Go.Proofs.Try.prog Go.Proofs.Try.f30.ntmps (loopAt (bodyOf Go.Proofs.Try.f30) 0) (e30_0 L30_0) := lp_ok (E := E30 r31 L30_0) rfl hE mixed (AllLoops.of_list (l := []) (by kernel_rfl) trivial) (n30_0 r31 ) (fun _ _ _ => rfl) (fun n x y z => t30_0 r31 L30_0 _ x y z) rfl
  exact fn_ok (E := E30 r31 L30_0) rfl hE mixed (by kernel_rfl) (by kernel_rfl) (AllLoops.of_list (l := [(loopAt (bodyOf Go.Proofs.Try.f30) 0)]) (by kernel_rfl) (.one (by kernel_rfl) h0 trivial)) (s30 r31 L30_0)
/- loop.example/g00231/impl.ObsSame -/
@[reducible] def i21 : List Ty := [.a [.sl false .n, .sl false .i, .sl false .i], .a [.sl false .n, .sl false .i, .sl false .i]]
@[reducible] def o21 : List Ty := [.v (.bool)]
noncomputable def m21 (c30 : PTup i30 → Option (PTup o30 × BTup i30)) (c32 : PTup i32 → Option (PTup o32 × BTup i32))  (y : PTup i21) : Option (PTup o21 × BTup i21) :=
  (c30 (y.1.1, (y.2.1.1, ((), ())))).bind fun r0 =>
  bif r0.1.1 then ((c32 (y.1.2.1, (y.2.1.2.1, ()))).bind fun r1 =>
   bif r1.1.1 then ((c32 (y.1.2.2.1, y.2.1.2.2)).bind fun r2 =>
    some (r2.1, ()))
   else some ((false, ()), ()))
  else some ((false, ()), ())
noncomputable def E21 (c30 : PTup i30 → Option (PTup o30 × BTup i30)) (c32 : PTup i32 → Option (PTup o32 × BTup i32))  : CEnv := ⟨⟨Go.Proofs.Try.prog, fnsL [(30, ⟨i30, o30, c30⟩), (32, ⟨i32, o32, c32⟩)]⟩, loopsL []⟩
theorem s21 (c30 : PTup i30 → Option (PTup o30 × BTup i30)) (c32 : PTup i32 → Option (PTup o32 × BTup i32))  (y) : tevF (E21 c30 c32 ) Go.Proofs.Try.f21 i21 o21 y = m21 c30 c32  y := by kernel_rfl
noncomputable def r21 : PTup i21 → Option (PTup o21 × BTup i21) := m21 r30 r32 
theorem k21 : CallOk Go.Proofs.Try.prog 21 ⟨i21, o21, r21⟩ := by
  have hE : ∀ g f, (E21 r30 r32 ).env.fns g = some f → CallOk Go.Proofs.Try.prog g f := fnsL_ok ⟨k30, k32, trivial⟩
  exact fn_ok (E := E21 r30 r32 ) rfl hE mixed (by kernel_rfl) (by kernel_rfl) (AllLoops.of_list (l := []) (by kernel_rfl) trivial) (s21 r30 r32 )
/- loop.example/g00231/laws.eqIntS -/
@[reducible] def i11 : List Ty := [.v (.sl false .i), .v (.sl false .i)]
@[reducible] def o11 : List Ty := [.v (.bool)]
@[reducible] def lc11_0 : List Ty := [.v (.sl false .i), .v (.sl false .i)]
@[reducible] def lb11_0 : List Ty := []
@[reducible] def lv11_0 : List Ty := [.v (.int .i64)]
@[reducible] def lr11_0 : List Ty := [.v (.bool)]
noncomputable def w11_0   (again : PTup lb11_0 → PTup lv11_0 → Option (Sum (PTup lv11_0) (PTup lr11_0) × BTup lb11_0)) (x : PTup lc11_0) (y : PTup lb11_0) (z : PTup lv11_0) : Option (Sum (PTup lv11_0) (PTup lr11_0) × BTup lb11_0) :=
  bif (ltI z.1 (lenI x.1)) then (bif (leI (0 : Int) z.1) then (bif (ltI z.1 (lenI x.1)) then (bif (leI (0 : Int) z.1) then (bif (ltI z.1 (lenI x.2.1)) then (bif (neI (rdE .i x.1 z.1) (rdE .i x.2.1 z.1)) then (some ((Sum.inr (false, ())), ()))
       else again () ((wI (z.1 + (1 : Int))), ()))
      else none)
     else none)
    else none)
   else none)
  else some ((Sum.inl z), ())
noncomputable def e11_0 (l : PTup lc11_0 → PTup lb11_0 → PTup lv11_0 → Option (Sum (PTup lv11_0) (PTup lr11_0) × BTup lb11_0)) : LoopE := ⟨[0, 1], lc11_0, [], lb11_0, [5], lv11_0, [4], lr11_0, 0, l⟩
noncomputable def m11  (l0 : PTup lc11_0 → PTup lb11_0 → PTup lv11_0 → Option (Sum (PTup lv11_0) (PTup lr11_0) × BTup lb11_0)) (y : PTup i11) : Option (PTup o11 × BTup i11) :=
  bif (neI (lenI y.1) (lenI y.2.1)) then (some ((false, ()), ()))
  else (l0 y () ((0 : Int), ())).bind fun r0 =>
  sumElim r0.1 (fun r1 => some ((true, ()), ()))
  (fun r1 => some (r1, ()))
noncomputable def E11  (l0 : PTup lc11_0 → PTup lb11_0 → PTup lv11_0 → Option (Sum (PTup lv11_0) (PTup lr11_0) × BTup lb11_0)) : CEnv := ⟨⟨Go.Proofs.Try.prog, fnsL []⟩, loopsL [(4, e11_0 l0)]⟩
theorem t11_0  (l0 : PTup lc11_0 → PTup lb11_0 → PTup lv11_0 → Option (Sum (PTup lv11_0) (PTup lr11_0) × BTup lb11_0)) (again) (x y z) : loopRound (E11  l0) (loopAt (bodyOf Go.Proofs.Try.f11) 0) (e11_0 l0) Go.Proofs.Try.f11.ntmps again x y z = w11_0   again x y z := by kernel_rfl
noncomputable def n11_0   : Nat → PTup lc11_0 → PTup lb11_0 → PTup lv11_0 → Option (Sum (PTup lv11_0) (PTup lr11_0) × BTup lb11_0)
  | 0, _, _, _ => none
  | n + 1, x, y, z => w11_0   (fun y z => n11_0   n x y z) x y z
theorem s11  (l0 : PTup lc11_0 → PTup lb11_0 → PTup lv11_0 → Option (Sum (PTup lv11_0) (PTup lr11_0) × BTup lb11_0)) (y) : tevF (E11  l0) Go.Proofs.Try.f11 i11 o11 y = m11  l0 y := by kernel_rfl
noncomputable def L11_0 : PTup lc11_0 → PTup lb11_0 → PTup lv11_0 → Option (Sum (PTup lv11_0) (PTup lr11_0) × BTup lb11_0) := n11_0   fuel
noncomputable def r11 : PTup i11 → Option (PTup o11 × BTup i11) := m11  L11_0
theorem k11 : CallOk Go.Proofs.Try.prog 11 ⟨i11, o11, r11⟩ := by
  have hE : ∀ g f, (E11  L11_0).env.fns g = some f → CallOk Go.Proofs.Try.prog g f := fnsL_ok trivial
  have h0 : LoopOk Go.Proofs.Try.prog Go.Proofs.Try.f11.ntmps (loopAt (bodyOf Go.Proofs.Try.f11) 0) (e11_0 L11_0) := lp_ok (E := E11  L11_0) rfl hE mixed (AllLoops.of_list (l := []) (by kernel_rfl) trivial) (n11_0  ) (fun _ _ _ => rfl) (fun n x y z => t11_0  L11_0 _ x y z) rfl
  exact fn_ok (E := E11  L11_0) rfl hE mixed (by kernel_rfl) (by kernel_rfl) (AllLoops.of_list (l := [(loopAt (bodyOf Go.Proofs.Try.f11) 0)]) (by kernel_rfl) (.one (by kernel_rfl) h0 trivial)) (s11  L11_0)
/- loop.example/g00231/laws.eqIntSS -/
@[reducible] def i33 : List Ty := [.v (.sl false .n), .v (.sl false .n)]
@[reducible] def o33 : List Ty := [.v (.bool)]
@[reducible] def lc33_0 : List Ty := [.v (.sl false .n), .v (.sl false .n)]
@[reducible] def lb33_0 : List Ty := []
@[reducible] def lv33_0 : List Ty := [.v (.int .i64)]
@[reducible] def lr33_0 : List Ty := [.v (.bool)]
noncomputable def w33_0 (c11 : PTup i11 → Option (PTup o11 × BTup i11))  (again : PTup lb33_0 → PTup lv33_0 → Option (Sum (PTup lv33_0) (PTup lr33_0) × BTup lb33_0)) (x : PTup lc33_0) (y : PTup lb33_0) (z : PTup lv33_0) : Option (Sum (PTup lv33_0) (PTup lr33_0) × BTup lb33_0) :=
  bif (ltI z.1 (lenI x.1)) then (bif (leI (0 : Int) z.1) then (bif (ltI z.1 (lenI x.1)) then (bif (leI (0 : Int) z.1) then (bif (ltI z.1 (lenI x.2.1)) then ((c11 ((rdE .n x.1 z.1), ((rdE .n x.2.1 z.1), ()))).bind fun r0 =>
       bif (!r0.1.1) then (some ((Sum.inr (false, ())), ()))
       else again () ((wI (z.1 + (1 : Int))), ()))
      else none)
     else none)
    else none)
   else none)
  else some ((Sum.inl z), ())
noncomputable def e33_0 (l : PTup lc33_0 → PTup lb33_0 → PTup lv33_0 → Option (Sum (PTup lv33_0) (PTup lr33_0) × BTup lb33_0)) : LoopE := ⟨[0, 1], lc33_0, [], lb33_0, [5], lv33_0, [4], lr33_0, 0, l⟩
noncomputable def m33 (c11 : PTup i11 → Option (PTup o11 × BTup i11)) (l0 : PTup lc33_0 → PTup lb33_0 → PTup lv33_0 → Option (Sum (PTup lv33_0) (PTup lr33_0) × BTup lb33_0)) (y : PTup i33) : Option (PTup o33 × BTup i33) :=
  bif (neI (lenI y.1) (lenI y.2.1)) then (some ((false, ()), ()))
  else (l0 y () ((0 : Int), ())).bind fun r0 =>
  sumElim r0.1 (fun r1 => some ((true, ()), ()))
  (fun r1 => some (r1, ()))
noncomputable def E33 (c11 : PTup i11 → Option (PTup o11 × BTup i11)) (l0 : PTup lc33_0 → PTup lb33_0 → PTup lv33_0 → Option (Sum (PTup lv33_0) (PTup lr33_0) × BTup lb33_0)) : CEnv := ⟨⟨Go.Proofs.Try.prog, fnsL [(11, ⟨i11, o11, c11⟩)]⟩, loopsL [(4, e33_0 l0)]⟩
theorem t33_0 (c11 : PTup i11 → Option (PTup o11 × BTup i11)) (l0 : PTup lc33_0 → PTup lb33_0 → PTup lv33_0 → Option (Sum (PTup lv33_0) (PTup lr33_0) × BTup lb33_0)) (again) (x y z) : loopRound (E33 c11 l0) (loopAt (bodyOf Go.Proofs.Try.f33) 0) (e33_0 l0) Go.Proofs.Try.f33.ntmps again x y z = w33_0 c11  again x y z := by kernel_rfl
noncomputable def n33_0 (c11 : PTup i11 → Option (PTup o11 × BTup i11))  : Nat → PTup lc33_0 → PTup lb33_0 → PTup lv33_0 → Option (Sum (PTup lv33_0) (PTup lr33_0) × BTup lb33_0)
  | 0, _, _, _ => none
  | n + 1, x, y, z => w33_0 c11  (fun y z => n33_0 c11  n x y z) x y z
theorem s33 (c11 : PTup i11 → Option (PTup o11 × BTup i11)) (l0 : PTup lc33_0 → PTup lb33_0 → PTup lv33_0 → Option (Sum (PTup lv33_0) (PTup lr33_0) × BTup lb33_0)) (y) : tevF (E33 c11 l0) Go.Proofs.Try.f33 i33 o33 y = m33 c11 l0 y := by kernel_rfl
noncomputable def L33_0 : PTup lc33_0 → PTup lb33_0 → PTup lv33_0 → Option (Sum (PTup lv33_0) (PTup lr33_0) × BTup lb33_0) := n33_0 r11  fuel
noncomputable def r33 : PTup i33 → Option (PTup o33 × BTup i33) := m33 r11 L33_0
theorem k33 : CallOk Go.Proofs.Try.prog 33 ⟨i33, o33, r33⟩ := by
  have hE : ∀ g f, (E33 r11 L33_0).env.fns g = some f → CallOk Go.Proofs.Try.prog g f := fnsL_ok ⟨k11, trivial⟩
  have h0 : LoopOk Go.Proofs.Try.prog Go.Proofs.Try.f33.ntmps (loopAt (bodyOf Go.Proofs.Try.f33) 0) (e33_0 L33_0) := lp_ok (E := E33 r11 L33_0) rfl hE mixed (AllLoops.of_list (l := []) (by kernel_rfl) trivial) (n33_0 r11 ) (fun _ _ _ => rfl) (fun n x y z => t33_0 r11 L33_0 _ x y z) rfl
  exact fn_ok (E := E33 r11 L33_0) rfl hE mixed (by kernel_rfl) (by kernel_rfl) (AllLoops.of_list (l := [(loopAt (bodyOf Go.Proofs.Try.f33) 0)]) (by kernel_rfl) (.one (by kernel_rfl) h0 trivial)) (s33 r11 L33_0)
/- loop.example/g00231/laws.eqObs -/
@[reducible] def i22 : List Ty := [.a [.sl false .n, .sl false .i, .sl false .i], .a [.sl false .n, .sl false .i, .sl false .i]]
@[reducible] def o22 : List Ty := [.v (.bool)]
noncomputable def m22 (c11 : PTup i11 → Option (PTup o11 × BTup i11)) (c33 : PTup i33 → Option (PTup o33 × BTup i33))  (y : PTup i22) : Option (PTup o22 × BTup i22) :=
  (c33 (y.1.1, (y.2.1.1, ()))).bind fun r0 =>
  bif (!r0.1.1) then (some ((false, ()), ()))
  else (c11 (y.1.2.1, (y.2.1.2.1, ()))).bind fun r1 =>
  bif (!r1.1.1) then (some ((false, ()), ()))
  else (c11 (y.1.2.2.1, y.2.1.2.2)).bind fun r2 =>
  bif (!r2.1.1) then (some ((false, ()), ()))
  else some ((true, ()), ())
noncomputable def E22 (c11 : PTup i11 → Option (PTup o11 × BTup i11)) (c33 : PTup i33 → Option (PTup o33 × BTup i33))  : CEnv := ⟨⟨Go.Proofs.Try.prog, fnsL [(11, ⟨i11, o11, c11⟩), (33, ⟨i33, o33, c33⟩)]⟩, loopsL []⟩
theorem s22 (c11 : PTup i11 → Option (PTup o11 × BTup i11)) (c33 : PTup i33 → Option (PTup o33 × BTup i33))  (y) : tevF (E22 c11 c33 ) Go.Proofs.Try.f22 i22 o22 y = m22 c11 c33  y := by kernel_rfl
noncomputable def r22 : PTup i22 → Option (PTup o22 × BTup i22) := m22 r11 r33 
theorem k22 : CallOk Go.Proofs.Try.prog 22 ⟨i22, o22, r22⟩ := by
  have hE : ∀ g f, (E22 r11 r33 ).env.fns g = some f → CallOk Go.Proofs.Try.prog g f := fnsL_ok ⟨k11, k33, trivial⟩
  exact fn_ok (E := E22 r11 r33 ) rfl hE mixed (by kernel_rfl) (by kernel_rfl) (AllLoops.of_list (l := []) (by kernel_rfl) trivial) (s22 r11 r33 )
/- loop.example/g00231/laws.FnExactObsSame -/
@[reducible] def i6 : List Ty := [.a [.sl false .n, .sl false .i, .sl false .i], .a [.sl false .n, .sl false .i, .sl false .i]]
@[reducible] def o6 : List Ty := [.v (.bool)]
noncomputable def m6 (c18 : PTup i18 → Option (PTup o18 × BTup i18)) (c19 : PTup i19 → Option (PTup o19 × BTup i19)) (c20 : PTup i20 → Option (PTup o20 × BTup i20)) (c21 : PTup i21 → Option (PTup o21 × BTup i21)) (c22 : PTup i22 → Option (PTup o22 × BTup i22))  (y : PTup i6) : Option (PTup o6 × BTup i6) :=
  (c18 (y.1, ((1048576 : Int), ()))).bind fun r0 =>
  bif (ltI r0.1.1 (0 : Int)) then (some ((true, ()), ()))
  else (c18 (y.2.1, r0.1)).bind fun r1 =>
  bif (ltI r1.1.1 (0 : Int)) then (some ((true, ()), ()))
  else (c20 (y.1, ())).bind fun r2 =>
  (c20 (y.2.1, ())).bind fun r3 =>
  (c19 (r2.1.1, (r3.1.1, ()))).bind fun r4 =>
  (c20 (y.1, ())).bind fun r5 =>
  (c20 (y.2.1, ())).bind fun r6 =>
  (c21 (r5.1.1, (r6.1.1, ()))).bind fun r7 =>
  bif (!(r7.1.1 == r4.1.1)) then (some ((false, ()), ()))
  else (c20 (y.1, ())).bind fun r8 =>
  (c22 (r5.1.1, (r8.1.1, ()))).bind fun r9 =>
  bif (!r9.1.1) then (some ((false, ()), ()))
  else (c20 (y.2.1, ())).bind fun r10 =>
  (c22 (r6.1.1, (r10.1.1, ()))).bind fun r11 =>
  bif (!r11.1.1) then (some ((false, ()), ()))
  else some ((true, ()), ())
noncomputable def E6 (c18 : PTup i18 → Option (PTup o18 × BTup i18)) (c19 : PTup i19 → Option (PTup o19 × BTup i19)) (c20 : PTup i20 → Option (PTup o20 × BTup i20)) (c21 : PTup i21 → Option (PTup o21 × BTup i21)) (c22 : PTup i22 → Option (PTup o22 × BTup i22))  : CEnv := ⟨⟨Go.Proofs.Try.prog, fnsL [(18, ⟨i18, o18, c18⟩), (19, ⟨i19, o19, c19⟩), (20, ⟨i20, o20, c20⟩), (21, ⟨i21, o21, c21⟩), (22, ⟨i22, o22, c22⟩)]⟩, loopsL []⟩
theorem s6 (c18 : PTup i18 → Option (PTup o18 × BTup i18)) (c19 : PTup i19 → Option (PTup o19 × BTup i19)) (c20 : PTup i20 → Option (PTup o20 × BTup i20)) (c21 : PTup i21 → Option (PTup o21 × BTup i21)) (c22 : PTup i22 → Option (PTup o22 × BTup i22))  (y) : tevF (E6 c18 c19 c20 c21 c22 ) Go.Proofs.Try.f6 i6 o6 y = m6 c18 c19 c20 c21 c22  y := by kernel_rfl
noncomputable def r6 : PTup i6 → Option (PTup o6 × BTup i6) := m6 r18 r19 r20 r21 r22 
theorem k6 : CallOk Go.Proofs.Try.prog 6 ⟨i6, o6, r6⟩ := by
  have hE : ∀ g f, (E6 r18 r19 r20 r21 r22 ).env.fns g = some f → CallOk Go.Proofs.Try.prog g f := fnsL_ok ⟨k18, k19, k20, k21, k22, trivial⟩
  exact fn_ok (E := E6 r18 r19 r20 r21 r22 ) rfl hE mixed (by kernel_rfl) (by kernel_rfl) (AllLoops.of_list (l := []) (by kernel_rfl) trivial) (s6 r18 r19 r20 r21 r22 )
/- loop.example/g00231/impl.ObsBegins -/
@[reducible] def i24 : List Ty := [.a [.sl false .n, .sl false .i, .sl false .i], .a [.sl false .n, .sl false .i, .sl false .i]]
@[reducible] def o24 : List Ty := [.v (.bool)]
noncomputable def m24 (c21 : PTup i21 → Option (PTup o21 × BTup i21))  (y : PTup i24) : Option (PTup o24 × BTup i24) :=
  bif (ltI (lenI y.2.1.1) (lenI y.1.1)) then (some ((false, ()), ()))
  else bif (ltI (lenI y.2.1.2.1) (lenI y.1.2.1)) then (some ((false, ()), ()))
  else bif (ltI (lenI y.2.1.2.2.1) (lenI y.1.2.2.1)) then (some ((false, ()), ()))
  else bif (leI (lenI y.1.1) (lenI y.2.1.1)) then (bif (leI (lenI y.1.2.1) (lenI y.2.1.2.1)) then (bif (leI (lenI y.1.2.2.1) (lenI y.2.1.2.2.1)) then ((c21 (y.1, (((List.take (Int.toNat (lenI y.1.1)) y.2.1.1), ((List.take (Int.toNat (lenI y.1.2.1)) y.2.1.2.1), ((List.take (Int.toNat (lenI y.1.2.2.1)) y.2.1.2.2.1), ()))), ()))).bind fun r0 =>
     some (r0.1, ()))
    else none)
   else none)
  else none
noncomputable def E24 (c21 : PTup i21 → Option (PTup o21 × BTup i21))  : CEnv := ⟨⟨Go.Proofs.Try.prog, fnsL [(21, ⟨i21, o21, c21⟩)]⟩, loopsL []⟩
theorem s24 (c21 : PTup i21 → Option (PTup o21 × BTup i21))  (y) : tevF (E24 c21 ) Go.Proofs.Try.f24 i24 o24 y = m24 c21  y := by kernel_rfl
noncomputable def r24 : PTup i24 → Option (PTup o24 × BTup i24) := m24 r21 
theorem k24 : CallOk Go.Proofs.Try.prog 24 ⟨i24, o24, r24⟩ := by
  have hE : ∀ g f, (E24 r21 ).env.fns g = some f → CallOk Go.Proofs.Try.prog g f := fnsL_ok ⟨k21, trivial⟩
  exact fn_ok (E := E24 r21 ) rfl hE mixed (by kernel_rfl) (by kernel_rfl) (AllLoops.of_list (l := []) (by kernel_rfl) trivial) (s24 r21 )
/- loop.example/g00231/laws.FnExactObsBegins -/
@[reducible] def i7 : List Ty := [.a [.sl false .n, .sl false .i, .sl false .i], .a [.sl false .n, .sl false .i, .sl false .i]]
@[reducible] def o7 : List Ty := [.v (.bool)]
noncomputable def m7 (c18 : PTup i18 → Option (PTup o18 × BTup i18)) (c20 : PTup i20 → Option (PTup o20 × BTup i20)) (c22 : PTup i22 → Option (PTup o22 × BTup i22)) (c23 : PTup i23 → Option (PTup o23 × BTup i23)) (c24 : PTup i24 → Option (PTup o24 × BTup i24))  (y : PTup i7) : Option (PTup o7 × BTup i7) :=
  (c18 (y.1, ((1048576 : Int), ()))).bind fun r0 =>
  bif (ltI r0.1.1 (0 : Int)) then (some ((true, ()), ()))
  else (c18 (y.2.1, r0.1)).bind fun r1 =>
  bif (ltI r1.1.1 (0 : Int)) then (some ((true, ()), ()))
  else (c20 (y.1, ())).bind fun r2 =>
  (c20 (y.2.1, ())).bind fun r3 =>
  (c23 (r2.1.1, (r3.1.1, ()))).bind fun r4 =>
  (c20 (y.1, ())).bind fun r5 =>
  (c20 (y.2.1, ())).bind fun r6 =>
  (c24 (r5.1.1, (r6.1.1, ()))).bind fun r7 =>
  bif (!(r7.1.1 == r4.1.1)) then (some ((false, ()), ()))
  else (c20 (y.1, ())).bind fun r8 =>
  (c22 (r5.1.1, (r8.1.1, ()))).bind fun r9 =>
  bif (!r9.1.1) then (some ((false, ()), ()))
  else (c20 (y.2.1, ())).bind fun r10 =>
  (c22 (r6.1.1, (r10.1.1, ()))).bind fun r11 =>
  bif (!r11.1.1) then (some ((false, ()), ()))
  else some ((true, ()), ())
noncomputable def E7 (c18 : PTup i18 → Option (PTup o18 × BTup i18)) (c20 : PTup i20 → Option (PTup o20 × BTup i20)) (c22 : PTup i22 → Option (PTup o22 × BTup i22)) (c23 : PTup i23 → Option (PTup o23 × BTup i23)) (c24 : PTup i24 → Option (PTup o24 × BTup i24))  : CEnv := ⟨⟨Go.Proofs.Try.prog, fnsL [(18, ⟨i18, o18, c18⟩), (20, ⟨i20, o20, c20⟩), (22, ⟨i22, o22, c22⟩), (23, ⟨i23, o23, c23⟩), (24, ⟨i24, o24, c24⟩)]⟩, loopsL []⟩
theorem s7 (c18 : PTup i18 → Option (PTup o18 × BTup i18)) (c20 : PTup i20 → Option (PTup o20 × BTup i20)) (c22 : PTup i22 → Option (PTup o22 × BTup i22)) (c23 : PTup i23 → Option (PTup o23 × BTup i23)) (c24 : PTup i24 → Option (PTup o24 × BTup i24))  (y) : tevF (E7 c18 c20 c22 c23 c24 ) Go.Proofs.Try.f7 i7 o7 y = m7 c18 c20 c22 c23 c24  y := by kernel_rfl
noncomputable def r7 : PTup i7 → Option (PTup o7 × BTup i7) := m7 r18 r20 r22 r23 r24 
theorem k7 : CallOk Go.Proofs.Try.prog 7 ⟨i7, o7, r7⟩ := by
  have hE : ∀ g f, (E7 r18 r20 r22 r23 r24 ).env.fns g = some f → CallOk Go.Proofs.Try.prog g f := fnsL_ok ⟨k18, k20, k22, k23, k24, trivial⟩
  exact fn_ok (E := E7 r18 r20 r22 r23 r24 ) rfl hE mixed (by kernel_rfl) (by kernel_rfl) (AllLoops.of_list (l := []) (by kernel_rfl) trivial) (s7 r18 r20 r22 r23 r24 )
end Go.Proofs.Ytmgdknbellgpnaa.Plain
