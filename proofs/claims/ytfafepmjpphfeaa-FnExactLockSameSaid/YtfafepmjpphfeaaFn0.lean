/- Plain functions that the program's functions answer as; their contracts. Printed by a program of the proofs' writer. No condition. -/
import Derived.Test.YtfafepmjpphfeaaUf
import Derived.KernelRfl
import Derived.Test.YtfafepmjpphfeaaProg
set_option linter.unusedVariables false
set_option linter.unusedSimpArgs false
set_option maxRecDepth 100000
namespace Go.Proofs.Ytfafepmjpphfeaa.Plain
open Go Go.Tev
theorem mixed : Go.Proofs.Try.prog.follows .mixedOrders = true := by kernel_rfl
/- loop.example/g00231/laws.szIntS -/
@[reducible] def i20 : List Ty := [.v (.sl false .i), .v (.int .i64)]
@[reducible] def o20 : List Ty := [.v (.int .i64)]
noncomputable def m20   (y : PTup i20) : Option (PTup o20 × BTup i20) :=
  bif (ltI (wI (y.2.1 - (lenI y.1))) (0 : Int)) then (some (((-(1 : Int)), ()), ()))
  else some (((wI (y.2.1 - (lenI y.1))), ()), ())
noncomputable def E20   : CEnv := ⟨⟨Go.Proofs.Try.prog, fnsL []⟩, loopsL []⟩
theorem s20   (y) : tevF (E20  ) Go.Proofs.Try.f20 i20 o20 y = m20   y := by kernel_rfl
noncomputable def r20 : PTup i20 → Option (PTup o20 × BTup i20) := m20  
theorem k20 : CallOk Go.Proofs.Try.prog 20 ⟨i20, o20, r20⟩ := by
  have hE : ∀ g f, (E20  ).env.fns g = some f → CallOk Go.Proofs.Try.prog g f := fnsL_ok trivial
  exact fn_ok (E := E20  ) rfl hE mixed (by kernel_rfl) (by kernel_rfl) (AllLoops.of_list (l := []) (by kernel_rfl) trivial) (s20  )
/- loop.example/g00231/laws.szIntSS -/
@[reducible] def i63 : List Ty := [.v (.sl false .n), .v (.int .i64)]
@[reducible] def o63 : List Ty := [.v (.int .i64)]
@[reducible] def lc63_0 : List Ty := [.v (.sl false .n)]
@[reducible] def lb63_0 : List Ty := []
@[reducible] def lv63_0 : List Ty := [.v (.int .i64), .v (.int .i64)]
@[reducible] def lr63_0 : List Ty := [.v (.int .i64)]
noncomputable def w63_0 (c20 : PTup i20 → Option (PTup o20 × BTup i20))  (again : PTup lb63_0 → PTup lv63_0 → Option (Sum (PTup lv63_0) (PTup lr63_0) × BTup lb63_0)) (x : PTup lc63_0) (y : PTup lb63_0) (z : PTup lv63_0) : Option (Sum (PTup lv63_0) (PTup lr63_0) × BTup lb63_0) :=
  bif (ltI z.2.1 (lenI x.1)) then (bif (leI (0 : Int) z.2.1) then (bif (ltI z.2.1 (lenI x.1)) then ((c20 ((rdE .n x.1 z.2.1), (z.1, ()))).bind fun r0 =>
     bif (ltI r0.1.1 (0 : Int)) then (some ((Sum.inr ((-(1 : Int)), ())), ()))
     else again () (r0.1.1, ((wI (z.2.1 + (1 : Int))), ())))
    else none)
   else none)
  else some ((Sum.inl z), ())
noncomputable def e63_0 (l : PTup lc63_0 → PTup lb63_0 → PTup lv63_0 → Option (Sum (PTup lv63_0) (PTup lr63_0) × BTup lb63_0)) : LoopE := ⟨[0], lc63_0, [], lb63_0, [1, 5], lv63_0, [4], lr63_0, 0, l⟩
noncomputable def m63 (c20 : PTup i20 → Option (PTup o20 × BTup i20)) (l0 : PTup lc63_0 → PTup lb63_0 → PTup lv63_0 → Option (Sum (PTup lv63_0) (PTup lr63_0) × BTup lb63_0)) (y : PTup i63) : Option (PTup o63 × BTup i63) :=
  bif (ltI (wI (y.2.1 - (lenI y.1))) (0 : Int)) then (some (((-(1 : Int)), ()), ()))
  else (l0 (y.1, ()) () ((wI (y.2.1 - (lenI y.1))), ((0 : Int), ()))).bind fun r0 =>
  sumElim r0.1 (fun r1 => some ((r1.1, ()), ()))
  (fun r1 => some (r1, ()))
noncomputable def E63 (c20 : PTup i20 → Option (PTup o20 × BTup i20)) (l0 : PTup lc63_0 → PTup lb63_0 → PTup lv63_0 → Option (Sum (PTup lv63_0) (PTup lr63_0) × BTup lb63_0)) : CEnv := ⟨⟨Go.Proofs.Try.prog, fnsL [(20, ⟨i20, o20, c20⟩)]⟩, loopsL [(5, e63_0 l0)]⟩
theorem t63_0 (c20 : PTup i20 → Option (PTup o20 × BTup i20)) (l0 : PTup lc63_0 → PTup lb63_0 → PTup lv63_0 → Option (Sum (PTup lv63_0) (PTup lr63_0) × BTup lb63_0)) (again) (x y z) : loopRound (E63 c20 l0) (loopAt (bodyOf Go.Proofs.Try.f63) 0) (e63_0 l0) Go.Proofs.Try.f63.ntmps again x y z = w63_0 c20  again x y z := by kernel_rfl
noncomputable def n63_0 (c20 : PTup i20 → Option (PTup o20 × BTup i20))  : Nat → PTup lc63_0 → PTup lb63_0 → PTup lv63_0 → Option (Sum (PTup lv63_0) (PTup lr63_0) × BTup lb63_0)
  | 0, _, _, _ => none
  | n + 1, x, y, z => w63_0 c20  (fun y z => n63_0 c20  n x y z) x y z
theorem s63 (c20 : PTup i20 → Option (PTup o20 × BTup i20)) (l0 : PTup lc63_0 → PTup lb63_0 → PTup lv63_0 → Option (Sum (PTup lv63_0) (PTup lr63_0) × BTup lb63_0)) (y) : tevF (E63 c20 l0) Go.Proofs.Try.f63 i63 o63 y = m63 c20 l0 y := by kernel_rfl
noncomputable def L63_0 : PTup lc63_0 → PTup lb63_0 → PTup lv63_0 → Option (Sum (PTup lv63_0) (PTup lr63_0) × BTup lb63_0) := n63_0 r20  fuel
noncomputable def r63 : PTup i63 → Option (PTup o63 × BTup i63) := m63 r20 L63_0
theorem k63 : CallOk Go.Proofs.Try.prog 63 ⟨i63, o63, r63⟩ := by
  have hE : ∀ g f, (E63 r20 L63_0).env.fns g = some f → CallOk Go.Proofs.Try.prog g f := fnsL_ok ⟨k20, trivial⟩
  have h0 : LoopOk Go.Proofs.Try.prog Go.Proofs.Try.f63.ntmps (loopAt (bodyOf Go.Proofs.Try.f63) 0) (e63_0 L63_0) := lp_ok (E := E63 r20 L63_0) rfl hE mixed (AllLoops.of_list (l := []) (by kernel_rfl) trivial) (n63_0 r20 ) (fun _ _ _ => rfl) (fun n x y z => t63_0 r20 L63_0 _ x y z) rfl
  exact fn_ok (E := E63 r20 L63_0) rfl hE mixed (by kernel_rfl) (by kernel_rfl) (AllLoops.of_list (l := [(loopAt (bodyOf Go.Proofs.Try.f63) 0)]) (by kernel_rfl) (.one (by kernel_rfl) h0 trivial)) (s63 r20 L63_0)
/- loop.example/g00231/laws.szImage -/
@[reducible] def i19 : List Ty := [.a [.sl false .n], .v (.int .i64)]
@[reducible] def o19 : List Ty := [.v (.int .i64)]
noncomputable def m19 (c63 : PTup i63 → Option (PTup o63 × BTup i63))  (y : PTup i19) : Option (PTup o19 × BTup i19) :=
  (c63 (y.1.1, y.2)).bind fun r0 =>
  bif (ltI r0.1.1 (0 : Int)) then (some (((-(1 : Int)), ()), ()))
  else some (r0.1, ())
noncomputable def E19 (c63 : PTup i63 → Option (PTup o63 × BTup i63))  : CEnv := ⟨⟨Go.Proofs.Try.prog, fnsL [(63, ⟨i63, o63, c63⟩)]⟩, loopsL []⟩
theorem s19 (c63 : PTup i63 → Option (PTup o63 × BTup i63))  (y) : tevF (E19 c63 ) Go.Proofs.Try.f19 i19 o19 y = m19 c63  y := by kernel_rfl
noncomputable def r19 : PTup i19 → Option (PTup o19 × BTup i19) := m19 r63 
theorem k19 : CallOk Go.Proofs.Try.prog 19 ⟨i19, o19, r19⟩ := by
  have hE : ∀ g f, (E19 r63 ).env.fns g = some f → CallOk Go.Proofs.Try.prog g f := fnsL_ok ⟨k63, trivial⟩
  exact fn_ok (E := E19 r63 ) rfl hE mixed (by kernel_rfl) (by kernel_rfl) (AllLoops.of_list (l := []) (by kernel_rfl) trivial) (s19 r63 )
/- loop.example/g00231/laws.szMem -/
@[reducible] def i21 : List Ty := [.a [.sl false .i, .int .i64], .v (.int .i64)]
@[reducible] def o21 : List Ty := [.v (.int .i64)]
noncomputable def m21 (c20 : PTup i20 → Option (PTup o20 × BTup i20))  (y : PTup i21) : Option (PTup o21 × BTup i21) :=
  (c20 (y.1.1, y.2)).bind fun r0 =>
  bif (ltI r0.1.1 (0 : Int)) then (some (((-(1 : Int)), ()), ()))
  else some (r0.1, ())
noncomputable def E21 (c20 : PTup i20 → Option (PTup o20 × BTup i20))  : CEnv := ⟨⟨Go.Proofs.Try.prog, fnsL [(20, ⟨i20, o20, c20⟩)]⟩, loopsL []⟩
theorem s21 (c20 : PTup i20 → Option (PTup o20 × BTup i20))  (y) : tevF (E21 c20 ) Go.Proofs.Try.f21 i21 o21 y = m21 c20  y := by kernel_rfl
noncomputable def r21 : PTup i21 → Option (PTup o21 × BTup i21) := m21 r20 
theorem k21 : CallOk Go.Proofs.Try.prog 21 ⟨i21, o21, r21⟩ := by
  have hE : ∀ g f, (E21 r20 ).env.fns g = some f → CallOk Go.Proofs.Try.prog g f := fnsL_ok ⟨k20, trivial⟩
  exact fn_ok (E := E21 r20 ) rfl hE mixed (by kernel_rfl) (by kernel_rfl) (AllLoops.of_list (l := []) (by kernel_rfl) trivial) (s21 r20 )
/- loop.example/g00231/laws.szPpu -/
@[reducible] def i22 : List Ty := [.a [.int .i64, .int .i64, .int .i64, .int .i64, .int .i64, .bool, .sl false .i, .sl false .i], .v (.int .i64)]
@[reducible] def o22 : List Ty := [.v (.int .i64)]
noncomputable def m22 (c20 : PTup i20 → Option (PTup o20 × BTup i20))  (y : PTup i22) : Option (PTup o22 × BTup i22) :=
  (c20 (y.1.2.2.2.2.2.2.1, y.2)).bind fun r0 =>
  bif (ltI r0.1.1 (0 : Int)) then (some (((-(1 : Int)), ()), ()))
  else (c20 (y.1.2.2.2.2.2.2.2.1, r0.1)).bind fun r1 =>
  bif (ltI r1.1.1 (0 : Int)) then (some (((-(1 : Int)), ()), ()))
  else some (r1.1, ())
noncomputable def E22 (c20 : PTup i20 → Option (PTup o20 × BTup i20))  : CEnv := ⟨⟨Go.Proofs.Try.prog, fnsL [(20, ⟨i20, o20, c20⟩)]⟩, loopsL []⟩
theorem s22 (c20 : PTup i20 → Option (PTup o20 × BTup i20))  (y) : tevF (E22 c20 ) Go.Proofs.Try.f22 i22 o22 y = m22 c20  y := by kernel_rfl
noncomputable def r22 : PTup i22 → Option (PTup o22 × BTup i22) := m22 r20 
theorem k22 : CallOk Go.Proofs.Try.prog 22 ⟨i22, o22, r22⟩ := by
  have hE : ∀ g f, (E22 r20 ).env.fns g = some f → CallOk Go.Proofs.Try.prog g f := fnsL_ok ⟨k20, trivial⟩
  exact fn_ok (E := E22 r20 ) rfl hE mixed (by kernel_rfl) (by kernel_rfl) (AllLoops.of_list (l := []) (by kernel_rfl) trivial) (s22 r20 )
/- loop.example/g00231/laws.szObs -/
@[reducible] def i23 : List Ty := [.a [.sl false .n, .sl false .i, .sl false .i], .v (.int .i64)]
@[reducible] def o23 : List Ty := [.v (.int .i64)]
noncomputable def m23 (c20 : PTup i20 → Option (PTup o20 × BTup i20)) (c63 : PTup i63 → Option (PTup o63 × BTup i63))  (y : PTup i23) : Option (PTup o23 × BTup i23) :=
  (c63 (y.1.1, y.2)).bind fun r0 =>
  bif (ltI r0.1.1 (0 : Int)) then (some (((-(1 : Int)), ()), ()))
  else (c20 (y.1.2.1, r0.1)).bind fun r1 =>
  bif (ltI r1.1.1 (0 : Int)) then (some (((-(1 : Int)), ()), ()))
  else (c20 (y.1.2.2.1, r1.1)).bind fun r2 =>
  bif (ltI r2.1.1 (0 : Int)) then (some (((-(1 : Int)), ()), ()))
  else some (r2.1, ())
noncomputable def E23 (c20 : PTup i20 → Option (PTup o20 × BTup i20)) (c63 : PTup i63 → Option (PTup o63 × BTup i63))  : CEnv := ⟨⟨Go.Proofs.Try.prog, fnsL [(20, ⟨i20, o20, c20⟩), (63, ⟨i63, o63, c63⟩)]⟩, loopsL []⟩
theorem s23 (c20 : PTup i20 → Option (PTup o20 × BTup i20)) (c63 : PTup i63 → Option (PTup o63 × BTup i63))  (y) : tevF (E23 c20 c63 ) Go.Proofs.Try.f23 i23 o23 y = m23 c20 c63  y := by kernel_rfl
noncomputable def r23 : PTup i23 → Option (PTup o23 × BTup i23) := m23 r20 r63 
theorem k23 : CallOk Go.Proofs.Try.prog 23 ⟨i23, o23, r23⟩ := by
  have hE : ∀ g f, (E23 r20 r63 ).env.fns g = some f → CallOk Go.Proofs.Try.prog g f := fnsL_ok ⟨k20, k63, trivial⟩
  exact fn_ok (E := E23 r20 r63 ) rfl hE mixed (by kernel_rfl) (by kernel_rfl) (AllLoops.of_list (l := []) (by kernel_rfl) trivial) (s23 r20 r63 )
/- loop.example/g00231/laws.szLock -/
@[reducible] def i5 : List Ty := [.a [.sl false .n, .sl false .i, .sl false .i, .int .i64, .int .i64, .int .i64, .int .i64, .int .i64, .bool, .bool, .bool, .bool, .int .i64, .int .i64, .int .i64, .int .i64, .int .i64, .bool, .sl false .i, .sl false .i, .int .i64, .int .i64, .int .i64, .int .i64, .int .i64, .bool, .bool, .bool, .int .i64, .bool, .int .i64, .sl false .n, .sl false .i, .sl false .i], .v (.int .i64)]
@[reducible] def o5 : List Ty := [.v (.int .i64)]
noncomputable def m5 (c19 : PTup i19 → Option (PTup o19 × BTup i19)) (c20 : PTup i20 → Option (PTup o20 × BTup i20)) (c21 : PTup i21 → Option (PTup o21 × BTup i21)) (c23 : PTup i23 → Option (PTup o23 × BTup i23)) (c22 : PTup i22 → Option (PTup o22 × BTup i22))  (y : PTup i5) : Option (PTup o5 × BTup i5) :=
  (c19 ((y.1.1, ()), y.2)).bind fun r0 =>
  bif (ltI r0.1.1 (0 : Int)) then (some (((-(1 : Int)), ()), ()))
  else (c20 (y.1.2.1, r0.1)).bind fun r1 =>
  bif (ltI r1.1.1 (0 : Int)) then (some (((-(1 : Int)), ()), ()))
  else (c21 ((y.1.2.2.1, (y.1.2.2.2.1, ())), r1.1)).bind fun r2 =>
  bif (ltI r2.1.1 (0 : Int)) then (some (((-(1 : Int)), ()), ()))
  else (c22 ((y.1.2.2.2.2.2.2.2.2.2.2.2.2.1, (y.1.2.2.2.2.2.2.2.2.2.2.2.2.2.1, (y.1.2.2.2.2.2.2.2.2.2.2.2.2.2.2.1, (y.1.2.2.2.2.2.2.2.2.2.2.2.2.2.2.2.1, (y.1.2.2.2.2.2.2.2.2.2.2.2.2.2.2.2.2.1, (y.1.2.2.2.2.2.2.2.2.2.2.2.2.2.2.2.2.2.1, (y.1.2.2.2.2.2.2.2.2.2.2.2.2.2.2.2.2.2.2.1, (y.1.2.2.2.2.2.2.2.2.2.2.2.2.2.2.2.2.2.2.2.1, ())))))))), r2.1)).bind fun r3 =>
  bif (ltI r3.1.1 (0 : Int)) then (some (((-(1 : Int)), ()), ()))
  else (c23 (y.1.2.2.2.2.2.2.2.2.2.2.2.2.2.2.2.2.2.2.2.2.2.2.2.2.2.2.2.2.2.2.2, r3.1)).bind fun r4 =>
  bif (ltI r4.1.1 (0 : Int)) then (some (((-(1 : Int)), ()), ()))
  else some (r4.1, ())
noncomputable def E5 (c19 : PTup i19 → Option (PTup o19 × BTup i19)) (c20 : PTup i20 → Option (PTup o20 × BTup i20)) (c21 : PTup i21 → Option (PTup o21 × BTup i21)) (c23 : PTup i23 → Option (PTup o23 × BTup i23)) (c22 : PTup i22 → Option (PTup o22 × BTup i22))  : CEnv := ⟨⟨Go.Proofs.Try.prog, fnsL [(19, ⟨i19, o19, c19⟩), (20, ⟨i20, o20, c20⟩), (21, ⟨i21, o21, c21⟩), (23, ⟨i23, o23, c23⟩), (22, ⟨i22, o22, c22⟩)]⟩, loopsL []⟩
theorem s5 (c19 : PTup i19 → Option (PTup o19 × BTup i19)) (c20 : PTup i20 → Option (PTup o20 × BTup i20)) (c21 : PTup i21 → Option (PTup o21 × BTup i21)) (c23 : PTup i23 → Option (PTup o23 × BTup i23)) (c22 : PTup i22 → Option (PTup o22 × BTup i22))  (y) : tevF (E5 c19 c20 c21 c23 c22 ) Go.Proofs.Try.f5 i5 o5 y = m5 c19 c20 c21 c23 c22  y := by kernel_rfl
noncomputable def r5 : PTup i5 → Option (PTup o5 × BTup i5) := m5 r19 r20 r21 r23 r22 
theorem k5 : CallOk Go.Proofs.Try.prog 5 ⟨i5, o5, r5⟩ := by
  have hE : ∀ g f, (E5 r19 r20 r21 r23 r22 ).env.fns g = some f → CallOk Go.Proofs.Try.prog g f := fnsL_ok ⟨k19, k20, k21, k23, k22, trivial⟩
  exact fn_ok (E := E5 r19 r20 r21 r23 r22 ) rfl hE mixed (by kernel_rfl) (by kernel_rfl) (AllLoops.of_list (l := []) (by kernel_rfl) trivial) (s5 r19 r20 r21 r23 r22 )
/- loop.example/g00231/laws.toIntS -/
@[reducible] def i28 : List Ty := [.v (.sl false .i)]
@[reducible] def o28 : List Ty := [.v (.sl true .i)]
@[reducible] def lc28_0 : List Ty := [.v (.sl false .i)]
@[reducible] def lb28_0 : List Ty := []
@[reducible] def lv28_0 : List Ty := [.v (.int .i64), .v (.sl true .i)]
@[reducible] def lr28_0 : List Ty := []
noncomputable def w28_0   (again : PTup lb28_0 → PTup lv28_0 → Option (Sum (PTup lv28_0) (PTup lr28_0) × BTup lb28_0)) (x : PTup lc28_0) (y : PTup lb28_0) (z : PTup lv28_0) : Option (Sum (PTup lv28_0) (PTup lr28_0) × BTup lb28_0) :=
  bif (ltI z.1 (lenI x.1)) then (bif (leI (0 : Int) z.1) then (bif (ltI z.1 (lenI x.1)) then (bif (leI (0 : Int) z.1) then (bif (ltI z.1 (lenI z.2.1)) then (again () ((wI (z.1 + (1 : Int))), ((List.set z.2.1 (Int.toNat z.1) (rdE .i x.1 z.1)), ())))
      else none)
     else none)
    else none)
   else none)
  else some ((Sum.inl z), ())
noncomputable def e28_0 (l : PTup lc28_0 → PTup lb28_0 → PTup lv28_0 → Option (Sum (PTup lv28_0) (PTup lr28_0) × BTup lb28_0)) : LoopE := ⟨[0], lc28_0, [], lb28_0, [4, 3], lv28_0, [], lr28_0, 0, l⟩
noncomputable def m28  (l0 : PTup lc28_0 → PTup lb28_0 → PTup lv28_0 → Option (Sum (PTup lv28_0) (PTup lr28_0) × BTup lb28_0)) (y : PTup i28) : Option (PTup o28 × BTup i28) :=
  bif (leN (Int.toNat (lenI y.1)) (E.most .i)) then ((l0 y () ((0 : Int), ((List.replicate (Int.toNat (lenI y.1)) (0 : Int)), ()))).bind fun r0 =>
   sumElim r0.1 (fun r1 => some (r1.2, ()))
   (fun r1 => some (([], ()), ())))
  else none
noncomputable def E28  (l0 : PTup lc28_0 → PTup lb28_0 → PTup lv28_0 → Option (Sum (PTup lv28_0) (PTup lr28_0) × BTup lb28_0)) : CEnv := ⟨⟨Go.Proofs.Try.prog, fnsL []⟩, loopsL [(3, e28_0 l0)]⟩
theorem t28_0  (l0 : PTup lc28_0 → PTup lb28_0 → PTup lv28_0 → Option (Sum (PTup lv28_0) (PTup lr28_0) × BTup lb28_0)) (again) (x y z) : loopRound (E28  l0) (loopAt (bodyOf Go.Proofs.Try.f28) 0) (e28_0 l0) Go.Proofs.Try.f28.ntmps again x y z = w28_0   again x y z := by kernel_rfl
noncomputable def n28_0   : Nat → PTup lc28_0 → PTup lb28_0 → PTup lv28_0 → Option (Sum (PTup lv28_0) (PTup lr28_0) × BTup lb28_0)
  | 0, _, _, _ => none
  | n + 1, x, y, z => w28_0   (fun y z => n28_0   n x y z) x y z
theorem s28  (l0 : PTup lc28_0 → PTup lb28_0 → PTup lv28_0 → Option (Sum (PTup lv28_0) (PTup lr28_0) × BTup lb28_0)) (y) : tevF (E28  l0) Go.Proofs.Try.f28 i28 o28 y = m28  l0 y := by kernel_rfl
noncomputable def L28_0 : PTup lc28_0 → PTup lb28_0 → PTup lv28_0 → Option (Sum (PTup lv28_0) (PTup lr28_0) × BTup lb28_0) := n28_0   fuel
noncomputable def r28 : PTup i28 → Option (PTup o28 × BTup i28) := m28  L28_0
theorem k28 : CallOk Go.Proofs.Try.prog 28 ⟨i28, o28, r28⟩ := by
  have hE : ∀ g f, (E28  L28_0).env.fns g = some f → CallOk Go.Proofs.Try.prog g f := fnsL_ok trivial
  have h0 : LoopOk Go.Proofs.Try.prog Go.Proofs.Try.f28.ntmps (loopAt (bodyOf Go.Proofs.Try.f28) 0) (e28_0 L28_0) := lp_ok (E := E28  L28_0) rfl hE mixed (AllLoops.of_list (l := []) (by kernel_rfl) trivial) (n28_0  ) (fun _ _ _ => rfl) (fun n x y z => t28_0  L28_0 _ x y z) rfl
  exact fn_ok (E := E28  L28_0) rfl hE mixed (by kernel_rfl) (by kernel_rfl) (AllLoops.of_list (l := [(loopAt (bodyOf Go.Proofs.Try.f28) 0)]) (by kernel_rfl) (.one (by kernel_rfl) h0 trivial)) (s28  L28_0)
/- loop.example/g00231/laws.toIntSS -/
@[reducible] def i66 : List Ty := [.v (.sl false .n)]
@[reducible] def o66 : List Ty := [.v (.sl true .n)]
@[reducible] def lc66_0 : List Ty := [.v (.sl false .n)]
@[reducible] def lb66_0 : List Ty := []
@[reducible] def lv66_0 : List Ty := [.v (.int .i64), .v (.sl true .n)]
@[reducible] def lr66_0 : List Ty := []
noncomputable def w66_0 (c28 : PTup i28 → Option (PTup o28 × BTup i28))  (again : PTup lb66_0 → PTup lv66_0 → Option (Sum (PTup lv66_0) (PTup lr66_0) × BTup lb66_0)) (x : PTup lc66_0) (y : PTup lb66_0) (z : PTup lv66_0) : Option (Sum (PTup lv66_0) (PTup lr66_0) × BTup lb66_0) :=
  bif (ltI z.1 (lenI x.1)) then (bif (leI (0 : Int) z.1) then (bif (ltI z.1 (lenI x.1)) then ((c28 ((rdE .n x.1 z.1), ())).bind fun r0 =>
     bif (leI (0 : Int) z.1) then (bif (ltI z.1 (lenI z.2.1)) then (again () ((wI (z.1 + (1 : Int))), ((List.set z.2.1 (Int.toNat z.1) r0.1.1), ())))
      else none)
     else none)
    else none)
   else none)
  else some ((Sum.inl z), ())
noncomputable def e66_0 (l : PTup lc66_0 → PTup lb66_0 → PTup lv66_0 → Option (Sum (PTup lv66_0) (PTup lr66_0) × BTup lb66_0)) : LoopE := ⟨[0], lc66_0, [], lb66_0, [4, 3], lv66_0, [], lr66_0, 0, l⟩
noncomputable def m66 (c28 : PTup i28 → Option (PTup o28 × BTup i28)) (l0 : PTup lc66_0 → PTup lb66_0 → PTup lv66_0 → Option (Sum (PTup lv66_0) (PTup lr66_0) × BTup lb66_0)) (y : PTup i66) : Option (PTup o66 × BTup i66) :=
  bif (leN (Int.toNat (lenI y.1)) (E.most .n)) then ((l0 y () ((0 : Int), ((List.replicate (Int.toNat (lenI y.1)) []), ()))).bind fun r0 =>
   sumElim r0.1 (fun r1 => some (r1.2, ()))
   (fun r1 => some (([], ()), ())))
  else none
noncomputable def E66 (c28 : PTup i28 → Option (PTup o28 × BTup i28)) (l0 : PTup lc66_0 → PTup lb66_0 → PTup lv66_0 → Option (Sum (PTup lv66_0) (PTup lr66_0) × BTup lb66_0)) : CEnv := ⟨⟨Go.Proofs.Try.prog, fnsL [(28, ⟨i28, o28, c28⟩)]⟩, loopsL [(3, e66_0 l0)]⟩
theorem t66_0 (c28 : PTup i28 → Option (PTup o28 × BTup i28)) (l0 : PTup lc66_0 → PTup lb66_0 → PTup lv66_0 → Option (Sum (PTup lv66_0) (PTup lr66_0) × BTup lb66_0)) (again) (x y z) : loopRound (E66 c28 l0) (loopAt (bodyOf Go.Proofs.Try.f66) 0) (e66_0 l0) Go.Proofs.Try.f66.ntmps again x y z = w66_0 c28  again x y z := by kernel_rfl
noncomputable def n66_0 (c28 : PTup i28 → Option (PTup o28 × BTup i28))  : Nat → PTup lc66_0 → PTup lb66_0 → PTup lv66_0 → Option (Sum (PTup lv66_0) (PTup lr66_0) × BTup lb66_0)
  | 0, _, _, _ => none
  | n + 1, x, y, z => w66_0 c28  (fun y z => n66_0 c28  n x y z) x y z
theorem s66 (c28 : PTup i28 → Option (PTup o28 × BTup i28)) (l0 : PTup lc66_0 → PTup lb66_0 → PTup lv66_0 → Option (Sum (PTup lv66_0) (PTup lr66_0) × BTup lb66_0)) (y) : tevF (E66 c28 l0) Go.Proofs.Try.f66 i66 o66 y = m66 c28 l0 y := by kernel_rfl
noncomputable def L66_0 : PTup lc66_0 → PTup lb66_0 → PTup lv66_0 → Option (Sum (PTup lv66_0) (PTup lr66_0) × BTup lb66_0) := n66_0 r28  fuel
noncomputable def r66 : PTup i66 → Option (PTup o66 × BTup i66) := m66 r28 L66_0
theorem k66 : CallOk Go.Proofs.Try.prog 66 ⟨i66, o66, r66⟩ := by
  have hE : ∀ g f, (E66 r28 L66_0).env.fns g = some f → CallOk Go.Proofs.Try.prog g f := fnsL_ok ⟨k28, trivial⟩
  have h0 : LoopOk Go.Proofs.Try.prog Go.Proofs.Try.f66.ntmps (loopAt (bodyOf Go.Proofs.Try.f66) 0) (e66_0 L66_0) := lp_ok (E := E66 r28 L66_0) rfl hE mixed (AllLoops.of_list (l := []) (by kernel_rfl) trivial) (n66_0 r28 ) (fun _ _ _ => rfl) (fun n x y z => t66_0 r28 L66_0 _ x y z) rfl
  exact fn_ok (E := E66 r28 L66_0) rfl hE mixed (by kernel_rfl) (by kernel_rfl) (AllLoops.of_list (l := [(loopAt (bodyOf Go.Proofs.Try.f66) 0)]) (by kernel_rfl) (.one (by kernel_rfl) h0 trivial)) (s66 r28 L66_0)
/- loop.example/g00231/laws.toImage -/
@[reducible] def i27 : List Ty := [.a [.sl false .n]]
@[reducible] def o27 : List Ty := [.a [.sl true .n]]
noncomputable def m27 (c66 : PTup i66 → Option (PTup o66 × BTup i66))  (y : PTup i27) : Option (PTup o27 × BTup i27) :=
  (c66 y.1).bind fun r0 =>
  some ((r0.1, ()), ())
noncomputable def E27 (c66 : PTup i66 → Option (PTup o66 × BTup i66))  : CEnv := ⟨⟨Go.Proofs.Try.prog, fnsL [(66, ⟨i66, o66, c66⟩)]⟩, loopsL []⟩
theorem s27 (c66 : PTup i66 → Option (PTup o66 × BTup i66))  (y) : tevF (E27 c66 ) Go.Proofs.Try.f27 i27 o27 y = m27 c66  y := by kernel_rfl
noncomputable def r27 : PTup i27 → Option (PTup o27 × BTup i27) := m27 r66 
theorem k27 : CallOk Go.Proofs.Try.prog 27 ⟨i27, o27, r27⟩ := by
  have hE : ∀ g f, (E27 r66 ).env.fns g = some f → CallOk Go.Proofs.Try.prog g f := fnsL_ok ⟨k66, trivial⟩
  exact fn_ok (E := E27 r66 ) rfl hE mixed (by kernel_rfl) (by kernel_rfl) (AllLoops.of_list (l := []) (by kernel_rfl) trivial) (s27 r66 )
/- loop.example/g00231/laws.toMem -/
@[reducible] def i29 : List Ty := [.a [.sl false .i, .int .i64]]
@[reducible] def o29 : List Ty := [.a [.sl true .i, .int .i64]]
noncomputable def m29 (c28 : PTup i28 → Option (PTup o28 × BTup i28))  (y : PTup i29) : Option (PTup o29 × BTup i29) :=
  (c28 (y.1.1, ())).bind fun r0 =>
  some (((r0.1.1, y.1.2), ()), ())
noncomputable def E29 (c28 : PTup i28 → Option (PTup o28 × BTup i28))  : CEnv := ⟨⟨Go.Proofs.Try.prog, fnsL [(28, ⟨i28, o28, c28⟩)]⟩, loopsL []⟩
theorem s29 (c28 : PTup i28 → Option (PTup o28 × BTup i28))  (y) : tevF (E29 c28 ) Go.Proofs.Try.f29 i29 o29 y = m29 c28  y := by kernel_rfl
noncomputable def r29 : PTup i29 → Option (PTup o29 × BTup i29) := m29 r28 
theorem k29 : CallOk Go.Proofs.Try.prog 29 ⟨i29, o29, r29⟩ := by
  have hE : ∀ g f, (E29 r28 ).env.fns g = some f → CallOk Go.Proofs.Try.prog g f := fnsL_ok ⟨k28, trivial⟩
  exact fn_ok (E := E29 r28 ) rfl hE mixed (by kernel_rfl) (by kernel_rfl) (AllLoops.of_list (l := []) (by kernel_rfl) trivial) (s29 r28 )
/- loop.example/g00231/laws.toCpu -/
@[reducible] def i30 : List Ty := [.a [.int .i64, .int .i64, .int .i64, .int .i64, .bool, .bool, .bool, .bool]]
@[reducible] def o30 : List Ty := [.a [.int .i64, .int .i64, .int .i64, .int .i64, .bool, .bool, .bool, .bool]]
noncomputable def m30   (y : PTup i30) : Option (PTup o30 × BTup i30) :=
  some ((y.1, ()), ())
noncomputable def E30   : CEnv := ⟨⟨Go.Proofs.Try.prog, fnsL []⟩, loopsL []⟩
theorem s30   (y) : tevF (E30  ) Go.Proofs.Try.f30 i30 o30 y = m30   y := by kernel_rfl
noncomputable def r30 : PTup i30 → Option (PTup o30 × BTup i30) := m30  
theorem k30 : CallOk Go.Proofs.Try.prog 30 ⟨i30, o30, r30⟩ := by
  have hE : ∀ g f, (E30  ).env.fns g = some f → CallOk Go.Proofs.Try.prog g f := fnsL_ok trivial
  exact fn_ok (E := E30  ) rfl hE mixed (by kernel_rfl) (by kernel_rfl) (AllLoops.of_list (l := []) (by kernel_rfl) trivial) (s30  )
/- loop.example/g00231/laws.toPpu -/
@[reducible] def i31 : List Ty := [.a [.int .i64, .int .i64, .int .i64, .int .i64, .int .i64, .bool, .sl false .i, .sl false .i]]
@[reducible] def o31 : List Ty := [.a [.int .i64, .int .i64, .int .i64, .int .i64, .int .i64, .bool, .sl true .i, .sl true .i]]
noncomputable def m31 (c28 : PTup i28 → Option (PTup o28 × BTup i28))  (y : PTup i31) : Option (PTup o31 × BTup i31) :=
  (c28 (y.1.2.2.2.2.2.2.1, ())).bind fun r0 =>
  (c28 y.1.2.2.2.2.2.2.2).bind fun r1 =>
  some (((y.1.1, (y.1.2.1, (y.1.2.2.1, (y.1.2.2.2.1, (y.1.2.2.2.2.1, (y.1.2.2.2.2.2.1, (r0.1.1, r1.1))))))), ()), ())
noncomputable def E31 (c28 : PTup i28 → Option (PTup o28 × BTup i28))  : CEnv := ⟨⟨Go.Proofs.Try.prog, fnsL [(28, ⟨i28, o28, c28⟩)]⟩, loopsL []⟩
theorem s31 (c28 : PTup i28 → Option (PTup o28 × BTup i28))  (y) : tevF (E31 c28 ) Go.Proofs.Try.f31 i31 o31 y = m31 c28  y := by kernel_rfl
noncomputable def r31 : PTup i31 → Option (PTup o31 × BTup i31) := m31 r28 
theorem k31 : CallOk Go.Proofs.Try.prog 31 ⟨i31, o31, r31⟩ := by
  have hE : ∀ g f, (E31 r28 ).env.fns g = some f → CallOk Go.Proofs.Try.prog g f := fnsL_ok ⟨k28, trivial⟩
  exact fn_ok (E := E31 r28 ) rfl hE mixed (by kernel_rfl) (by kernel_rfl) (AllLoops.of_list (l := []) (by kernel_rfl) trivial) (s31 r28 )
/- loop.example/g00231/laws.toApu -/
@[reducible] def i32 : List Ty := [.a [.int .i64, .int .i64, .int .i64, .int .i64, .int .i64, .bool, .bool]]
@[reducible] def o32 : List Ty := [.a [.int .i64, .int .i64, .int .i64, .int .i64, .int .i64, .bool, .bool]]
noncomputable def m32   (y : PTup i32) : Option (PTup o32 × BTup i32) :=
  some ((y.1, ()), ())
noncomputable def E32   : CEnv := ⟨⟨Go.Proofs.Try.prog, fnsL []⟩, loopsL []⟩
theorem s32   (y) : tevF (E32  ) Go.Proofs.Try.f32 i32 o32 y = m32   y := by kernel_rfl
noncomputable def r32 : PTup i32 → Option (PTup o32 × BTup i32) := m32  
theorem k32 : CallOk Go.Proofs.Try.prog 32 ⟨i32, o32, r32⟩ := by
  have hE : ∀ g f, (E32  ).env.fns g = some f → CallOk Go.Proofs.Try.prog g f := fnsL_ok trivial
  exact fn_ok (E := E32  ) rfl hE mixed (by kernel_rfl) (by kernel_rfl) (AllLoops.of_list (l := []) (by kernel_rfl) trivial) (s32  )
/- loop.example/g00231/laws.toPad -/
@[reducible] def i33 : List Ty := [.a [.bool, .int .i64]]
@[reducible] def o33 : List Ty := [.a [.bool, .int .i64]]
noncomputable def m33   (y : PTup i33) : Option (PTup o33 × BTup i33) :=
  some ((y.1, ()), ())
noncomputable def E33   : CEnv := ⟨⟨Go.Proofs.Try.prog, fnsL []⟩, loopsL []⟩
theorem s33   (y) : tevF (E33  ) Go.Proofs.Try.f33 i33 o33 y = m33   y := by kernel_rfl
noncomputable def r33 : PTup i33 → Option (PTup o33 × BTup i33) := m33  
theorem k33 : CallOk Go.Proofs.Try.prog 33 ⟨i33, o33, r33⟩ := by
  have hE : ∀ g f, (E33  ).env.fns g = some f → CallOk Go.Proofs.Try.prog g f := fnsL_ok trivial
  exact fn_ok (E := E33  ) rfl hE mixed (by kernel_rfl) (by kernel_rfl) (AllLoops.of_list (l := []) (by kernel_rfl) trivial) (s33  )
/- loop.example/g00231/laws.toObs -/
@[reducible] def i34 : List Ty := [.a [.sl false .n, .sl false .i, .sl false .i]]
@[reducible] def o34 : List Ty := [.a [.sl true .n, .sl true .i, .sl true .i]]
noncomputable def m34 (c28 : PTup i28 → Option (PTup o28 × BTup i28)) (c66 : PTup i66 → Option (PTup o66 × BTup i66))  (y : PTup i34) : Option (PTup o34 × BTup i34) :=
  (c66 (y.1.1, ())).bind fun r0 =>
  (c28 (y.1.2.1, ())).bind fun r1 =>
  (c28 y.1.2.2).bind fun r2 =>
  some (((r0.1.1, (r1.1.1, r2.1)), ()), ())
noncomputable def E34 (c28 : PTup i28 → Option (PTup o28 × BTup i28)) (c66 : PTup i66 → Option (PTup o66 × BTup i66))  : CEnv := ⟨⟨Go.Proofs.Try.prog, fnsL [(28, ⟨i28, o28, c28⟩), (66, ⟨i66, o66, c66⟩)]⟩, loopsL []⟩
theorem s34 (c28 : PTup i28 → Option (PTup o28 × BTup i28)) (c66 : PTup i66 → Option (PTup o66 × BTup i66))  (y) : tevF (E34 c28 c66 ) Go.Proofs.Try.f34 i34 o34 y = m34 c28 c66  y := by kernel_rfl
noncomputable def r34 : PTup i34 → Option (PTup o34 × BTup i34) := m34 r28 r66 
theorem k34 : CallOk Go.Proofs.Try.prog 34 ⟨i34, o34, r34⟩ := by
  have hE : ∀ g f, (E34 r28 r66 ).env.fns g = some f → CallOk Go.Proofs.Try.prog g f := fnsL_ok ⟨k28, k66, trivial⟩
  exact fn_ok (E := E34 r28 r66 ) rfl hE mixed (by kernel_rfl) (by kernel_rfl) (AllLoops.of_list (l := []) (by kernel_rfl) trivial) (s34 r28 r66 )
/- loop.example/g00231/laws.toLock -/
@[reducible] def i7 : List Ty := [.a [.sl false .n, .sl false .i, .sl false .i, .int .i64, .int .i64, .int .i64, .int .i64, .int .i64, .bool, .bool, .bool, .bool, .int .i64, .int .i64, .int .i64, .int .i64, .int .i64, .bool, .sl false .i, .sl false .i, .int .i64, .int .i64, .int .i64, .int .i64, .int .i64, .bool, .bool, .bool, .int .i64, .bool, .int .i64, .sl false .n, .sl false .i, .sl false .i]]
@[reducible] def o7 : List Ty := [.a [.sl true .n, .sl true .i, .sl true .i, .int .i64, .int .i64, .int .i64, .int .i64, .int .i64, .bool, .bool, .bool, .bool, .int .i64, .int .i64, .int .i64, .int .i64, .int .i64, .bool, .sl true .i, .sl true .i, .int .i64, .int .i64, .int .i64, .int .i64, .int .i64, .bool, .bool, .bool, .int .i64, .bool, .int .i64, .sl true .n, .sl true .i, .sl true .i]]
noncomputable def m7 (c32 : PTup i32 → Option (PTup o32 × BTup i32)) (c30 : PTup i30 → Option (PTup o30 × BTup i30)) (c27 : PTup i27 → Option (PTup o27 × BTup i27)) (c28 : PTup i28 → Option (PTup o28 × BTup i28)) (c29 : PTup i29 → Option (PTup o29 × BTup i29)) (c34 : PTup i34 → Option (PTup o34 × BTup i34)) (c33 : PTup i33 → Option (PTup o33 × BTup i33)) (c31 : PTup i31 → Option (PTup o31 × BTup i31))  (y : PTup i7) : Option (PTup o7 × BTup i7) :=
  (c27 ((y.1.1, ()), ())).bind fun r0 =>
  (c28 (y.1.2.1, ())).bind fun r1 =>
  (c29 ((y.1.2.2.1, (y.1.2.2.2.1, ())), ())).bind fun r2 =>
  (c30 ((y.1.2.2.2.2.1, (y.1.2.2.2.2.2.1, (y.1.2.2.2.2.2.2.1, (y.1.2.2.2.2.2.2.2.1, (y.1.2.2.2.2.2.2.2.2.1, (y.1.2.2.2.2.2.2.2.2.2.1, (y.1.2.2.2.2.2.2.2.2.2.2.1, (y.1.2.2.2.2.2.2.2.2.2.2.2.1, ())))))))), ())).bind fun r3 =>
  (c31 ((y.1.2.2.2.2.2.2.2.2.2.2.2.2.1, (y.1.2.2.2.2.2.2.2.2.2.2.2.2.2.1, (y.1.2.2.2.2.2.2.2.2.2.2.2.2.2.2.1, (y.1.2.2.2.2.2.2.2.2.2.2.2.2.2.2.2.1, (y.1.2.2.2.2.2.2.2.2.2.2.2.2.2.2.2.2.1, (y.1.2.2.2.2.2.2.2.2.2.2.2.2.2.2.2.2.2.1, (y.1.2.2.2.2.2.2.2.2.2.2.2.2.2.2.2.2.2.2.1, (y.1.2.2.2.2.2.2.2.2.2.2.2.2.2.2.2.2.2.2.2.1, ())))))))), ())).bind fun r4 =>
  (c32 ((y.1.2.2.2.2.2.2.2.2.2.2.2.2.2.2.2.2.2.2.2.2.1, (y.1.2.2.2.2.2.2.2.2.2.2.2.2.2.2.2.2.2.2.2.2.2.1, (y.1.2.2.2.2.2.2.2.2.2.2.2.2.2.2.2.2.2.2.2.2.2.2.1, (y.1.2.2.2.2.2.2.2.2.2.2.2.2.2.2.2.2.2.2.2.2.2.2.2.1, (y.1.2.2.2.2.2.2.2.2.2.2.2.2.2.2.2.2.2.2.2.2.2.2.2.2.1, (y.1.2.2.2.2.2.2.2.2.2.2.2.2.2.2.2.2.2.2.2.2.2.2.2.2.2.1, (y.1.2.2.2.2.2.2.2.2.2.2.2.2.2.2.2.2.2.2.2.2.2.2.2.2.2.2.1, ()))))))), ())).bind fun r5 =>
  (c33 ((y.1.2.2.2.2.2.2.2.2.2.2.2.2.2.2.2.2.2.2.2.2.2.2.2.2.2.2.2.1, (y.1.2.2.2.2.2.2.2.2.2.2.2.2.2.2.2.2.2.2.2.2.2.2.2.2.2.2.2.2.1, ())), ())).bind fun r6 =>
  (c34 (y.1.2.2.2.2.2.2.2.2.2.2.2.2.2.2.2.2.2.2.2.2.2.2.2.2.2.2.2.2.2.2.2, ())).bind fun r7 =>
  some (((r0.1.1.1, (r1.1.1, (r2.1.1.1, (r2.1.1.2.1, (r3.1.1.1, (r3.1.1.2.1, (r3.1.1.2.2.1, (r3.1.1.2.2.2.1, (r3.1.1.2.2.2.2.1, (r3.1.1.2.2.2.2.2.1, (r3.1.1.2.2.2.2.2.2.1, (r3.1.1.2.2.2.2.2.2.2.1, (r4.1.1.1, (r4.1.1.2.1, (r4.1.1.2.2.1, (r4.1.1.2.2.2.1, (r4.1.1.2.2.2.2.1, (r4.1.1.2.2.2.2.2.1, (r4.1.1.2.2.2.2.2.2.1, (r4.1.1.2.2.2.2.2.2.2.1, (r5.1.1.1, (r5.1.1.2.1, (r5.1.1.2.2.1, (r5.1.1.2.2.2.1, (r5.1.1.2.2.2.2.1, (r5.1.1.2.2.2.2.2.1, (r5.1.1.2.2.2.2.2.2.1, (r6.1.1.1, (r6.1.1.2.1, (y.1.2.2.2.2.2.2.2.2.2.2.2.2.2.2.2.2.2.2.2.2.2.2.2.2.2.2.2.2.2.1, (y.1.2.2.2.2.2.2.2.2.2.2.2.2.2.2.2.2.2.2.2.2.2.2.2.2.2.2.2.2.2.2.1, r7.1.1))))))))))))))))))))))))))))))), ()), ())
noncomputable def E7 (c32 : PTup i32 → Option (PTup o32 × BTup i32)) (c30 : PTup i30 → Option (PTup o30 × BTup i30)) (c27 : PTup i27 → Option (PTup o27 × BTup i27)) (c28 : PTup i28 → Option (PTup o28 × BTup i28)) (c29 : PTup i29 → Option (PTup o29 × BTup i29)) (c34 : PTup i34 → Option (PTup o34 × BTup i34)) (c33 : PTup i33 → Option (PTup o33 × BTup i33)) (c31 : PTup i31 → Option (PTup o31 × BTup i31))  : CEnv := ⟨⟨Go.Proofs.Try.prog, fnsL [(32, ⟨i32, o32, c32⟩), (30, ⟨i30, o30, c30⟩), (27, ⟨i27, o27, c27⟩), (28, ⟨i28, o28, c28⟩), (29, ⟨i29, o29, c29⟩), (34, ⟨i34, o34, c34⟩), (33, ⟨i33, o33, c33⟩), (31, ⟨i31, o31, c31⟩)]⟩, loopsL []⟩
theorem s7 (c32 : PTup i32 → Option (PTup o32 × BTup i32)) (c30 : PTup i30 → Option (PTup o30 × BTup i30)) (c27 : PTup i27 → Option (PTup o27 × BTup i27)) (c28 : PTup i28 → Option (PTup o28 × BTup i28)) (c29 : PTup i29 → Option (PTup o29 × BTup i29)) (c34 : PTup i34 → Option (PTup o34 × BTup i34)) (c33 : PTup i33 → Option (PTup o33 × BTup i33)) (c31 : PTup i31 → Option (PTup o31 × BTup i31))  (y) : tevF (E7 c32 c30 c27 c28 c29 c34 c33 c31 ) Go.Proofs.Try.f7 i7 o7 y = m7 c32 c30 c27 c28 c29 c34 c33 c31  y := by kernel_rfl
noncomputable def r7 : PTup i7 → Option (PTup o7 × BTup i7) := m7 r32 r30 r27 r28 r29 r34 r33 r31 
theorem k7 : CallOk Go.Proofs.Try.prog 7 ⟨i7, o7, r7⟩ := by
  have hE : ∀ g f, (E7 r32 r30 r27 r28 r29 r34 r33 r31 ).env.fns g = some f → CallOk Go.Proofs.Try.prog g f := fnsL_ok ⟨k32, k30, k27, k28, k29, k34, k33, k31, trivial⟩
  exact fn_ok (E := E7 r32 r30 r27 r28 r29 r34 r33 r31 ) rfl hE mixed (by kernel_rfl) (by kernel_rfl) (AllLoops.of_list (l := []) (by kernel_rfl) trivial) (s7 r32 r30 r27 r28 r29 r34 r33 r31 )
/- loop.example/g00231/spec.l17Begins -/
@[reducible] def i64 : List Ty := [.v (.sl false .i), .v (.sl false .i)]
@[reducible] def o64 : List Ty := [.v (.bool)]
@[reducible] def lc64_0 : List Ty := [.v (.sl false .i), .v (.sl false .i)]
@[reducible] def lb64_0 : List Ty := []
@[reducible] def lv64_0 : List Ty := [.v (.int .i64)]
@[reducible] def lr64_0 : List Ty := [.v (.bool)]
noncomputable def w64_0   (again : PTup lb64_0 → PTup lv64_0 → Option (Sum (PTup lv64_0) (PTup lr64_0) × BTup lb64_0)) (x : PTup lc64_0) (y : PTup lb64_0) (z : PTup lv64_0) : Option (Sum (PTup lv64_0) (PTup lr64_0) × BTup lb64_0) :=
  bif (ltI z.1 (lenI x.1)) then (bif (ltI z.1 (lenI x.2.1)) then (bif (leI (0 : Int) z.1) then (bif (ltI z.1 (lenI x.1)) then (bif (leI (0 : Int) z.1) then (bif (ltI z.1 (lenI x.2.1)) then (bif (neI (rdE .i x.1 z.1) (rdE .i x.2.1 z.1)) then (some ((Sum.inr (false, ())), ()))
        else again () ((wI (z.1 + (1 : Int))), ()))
       else none)
      else none)
     else none)
    else none)
   else some ((Sum.inl z), ()))
  else some ((Sum.inl z), ())
noncomputable def e64_0 (l : PTup lc64_0 → PTup lb64_0 → PTup lv64_0 → Option (Sum (PTup lv64_0) (PTup lr64_0) × BTup lb64_0)) : LoopE := ⟨[0, 1], lc64_0, [], lb64_0, [5], lv64_0, [4], lr64_0, 0, l⟩
noncomputable def m64  (l0 : PTup lc64_0 → PTup lb64_0 → PTup lv64_0 → Option (Sum (PTup lv64_0) (PTup lr64_0) × BTup lb64_0)) (y : PTup i64) : Option (PTup o64 × BTup i64) :=
  (l0 y () ((0 : Int), ())).bind fun r0 =>
  sumElim r0.1 (fun r1 => some (((leI (lenI y.1) (lenI y.2.1)), ()), ()))
  (fun r1 => some (r1, ()))
noncomputable def E64  (l0 : PTup lc64_0 → PTup lb64_0 → PTup lv64_0 → Option (Sum (PTup lv64_0) (PTup lr64_0) × BTup lb64_0)) : CEnv := ⟨⟨Go.Proofs.Try.prog, fnsL []⟩, loopsL [(2, e64_0 l0)]⟩
theorem t64_0  (l0 : PTup lc64_0 → PTup lb64_0 → PTup lv64_0 → Option (Sum (PTup lv64_0) (PTup lr64_0) × BTup lb64_0)) (again) (x y z) : loopRound (E64  l0) (loopAt (bodyOf Go.Proofs.Try.f64) 0) (e64_0 l0) Go.Proofs.Try.f64.ntmps again x y z = w64_0   again x y z := by kernel_rfl
noncomputable def n64_0   : Nat → PTup lc64_0 → PTup lb64_0 → PTup lv64_0 → Option (Sum (PTup lv64_0) (PTup lr64_0) × BTup lb64_0)
  | 0, _, _, _ => none
  | n + 1, x, y, z => w64_0   (fun y z => n64_0   n x y z) x y z
theorem s64  (l0 : PTup lc64_0 → PTup lb64_0 → PTup lv64_0 → Option (Sum (PTup lv64_0) (PTup lr64_0) × BTup lb64_0)) (y) : tevF (E64  l0) Go.Proofs.Try.f64 i64 o64 y = m64  l0 y := by kernel_rfl
noncomputable def L64_0 : PTup lc64_0 → PTup lb64_0 → PTup lv64_0 → Option (Sum (PTup lv64_0) (PTup lr64_0) × BTup lb64_0) := n64_0   fuel
noncomputable def r64 : PTup i64 → Option (PTup o64 × BTup i64) := m64  L64_0
theorem k64 : CallOk Go.Proofs.Try.prog 64 ⟨i64, o64, r64⟩ := by
  have hE : ∀ g f, (E64  L64_0).env.fns g = some f → CallOk Go.Proofs.Try.prog g f := fnsL_ok trivial
  have h0 : LoopOk Go.Proofs.Try.prog Go.Proofs.Try.f64.ntmps (loopAt (bodyOf Go.Proofs.Try.f64) 0) (e64_0 L64_0) := lp_ok (E := E64  L64_0) rfl hE mixed (AllLoops.of_list (l := []) (by kernel_rfl) trivial) (n64_0  ) (fun _ _ _ => rfl) (fun n x y z => t64_0  L64_0 _ x y z) rfl
  exact fn_ok (E := E64  L64_0) rfl hE mixed (by kernel_rfl) (by kernel_rfl) (AllLoops.of_list (l := [(loopAt (bodyOf Go.Proofs.Try.f64) 0)]) (by kernel_rfl) (.one (by kernel_rfl) h0 trivial)) (s64  L64_0)
/- loop.example/g00231/spec.l17Same -/
@[reducible] def i24 : List Ty := [.v (.sl false .i), .v (.sl false .i)]
@[reducible] def o24 : List Ty := [.v (.bool)]
noncomputable def m24 (c64 : PTup i64 → Option (PTup o64 × BTup i64))  (y : PTup i24) : Option (PTup o24 × BTup i24) :=
  bif (eqI (lenI y.1) (lenI y.2.1)) then ((c64 y).bind fun r0 =>
   some (r0.1, ()))
  else some ((false, ()), ())
noncomputable def E24 (c64 : PTup i64 → Option (PTup o64 × BTup i64))  : CEnv := ⟨⟨Go.Proofs.Try.prog, fnsL [(64, ⟨i64, o64, c64⟩)]⟩, loopsL []⟩
theorem s24 (c64 : PTup i64 → Option (PTup o64 × BTup i64))  (y) : tevF (E24 c64 ) Go.Proofs.Try.f24 i24 o24 y = m24 c64  y := by kernel_rfl
noncomputable def r24 : PTup i24 → Option (PTup o24 × BTup i24) := m24 r64 
theorem k24 : CallOk Go.Proofs.Try.prog 24 ⟨i24, o24, r24⟩ := by
  have hE : ∀ g f, (E24 r64 ).env.fns g = some f → CallOk Go.Proofs.Try.prog g f := fnsL_ok ⟨k64, trivial⟩
  exact fn_ok (E := E24 r64 ) rfl hE mixed (by kernel_rfl) (by kernel_rfl) (AllLoops.of_list (l := []) (by kernel_rfl) trivial) (s24 r64 )
/- loop.example/g00231/spec.l17Ppu -/
@[reducible] def i25 : List Ty := [.a [.int .i64, .int .i64, .int .i64, .int .i64, .int .i64, .bool, .sl false .i, .sl false .i], .a [.int .i64, .int .i64, .int .i64, .int .i64, .int .i64, .bool, .sl false .i, .sl false .i]]
@[reducible] def o25 : List Ty := [.v (.bool)]
noncomputable def m25 (c24 : PTup i24 → Option (PTup o24 × BTup i24))  (y : PTup i25) : Option (PTup o25 × BTup i25) :=
  bif (eqI y.1.1 y.2.1.1) then (bif (eqI y.1.2.1 y.2.1.2.1) then (bif (eqI y.1.2.2.1 y.2.1.2.2.1) then (bif (eqI y.1.2.2.2.1 y.2.1.2.2.2.1) then (bif (eqI y.1.2.2.2.2.1 y.2.1.2.2.2.2.1) then (bif (y.1.2.2.2.2.2.1 == y.2.1.2.2.2.2.2.1) then ((c24 (y.1.2.2.2.2.2.2.1, (y.2.1.2.2.2.2.2.2.1, ()))).bind fun r0 =>
        bif r0.1.1 then ((c24 (y.1.2.2.2.2.2.2.2.1, y.2.1.2.2.2.2.2.2.2)).bind fun r1 =>
         some (r1.1, ()))
        else some ((false, ()), ()))
       else some ((false, ()), ()))
      else some ((false, ()), ()))
     else some ((false, ()), ()))
    else some ((false, ()), ()))
   else some ((false, ()), ()))
  else some ((false, ()), ())
noncomputable def E25 (c24 : PTup i24 → Option (PTup o24 × BTup i24))  : CEnv := ⟨⟨Go.Proofs.Try.prog, fnsL [(24, ⟨i24, o24, c24⟩)]⟩, loopsL []⟩
theorem s25 (c24 : PTup i24 → Option (PTup o24 × BTup i24))  (y) : tevF (E25 c24 ) Go.Proofs.Try.f25 i25 o25 y = m25 c24  y := by kernel_rfl
noncomputable def r25 : PTup i25 → Option (PTup o25 × BTup i25) := m25 r24 
theorem k25 : CallOk Go.Proofs.Try.prog 25 ⟨i25, o25, r25⟩ := by
  have hE : ∀ g f, (E25 r24 ).env.fns g = some f → CallOk Go.Proofs.Try.prog g f := fnsL_ok ⟨k24, trivial⟩
  exact fn_ok (E := E25 r24 ) rfl hE mixed (by kernel_rfl) (by kernel_rfl) (AllLoops.of_list (l := []) (by kernel_rfl) trivial) (s25 r24 )
/- loop.example/g00231/spec.ObsBegins -/
@[reducible] def i65 : List Ty := [.a [.sl false .n, .sl false .i, .sl false .i], .a [.sl false .n, .sl false .i, .sl false .i]]
@[reducible] def o65 : List Ty := [.v (.bool)]
@[reducible] def lc65_0 : List Ty := []
@[reducible] def lb65_0 : List Ty := [.p [.sl false .n, .sl false .i, .sl false .i], .p [.sl false .n, .sl false .i, .sl false .i]]
@[reducible] def lv65_0 : List Ty := [.v (.int .i64)]
@[reducible] def lr65_0 : List Ty := [.v (.bool)]
noncomputable def w65_0 (c64 : PTup i64 → Option (PTup o64 × BTup i64)) (c24 : PTup i24 → Option (PTup o24 × BTup i24))  (again : PTup lb65_0 → PTup lv65_0 → Option (Sum (PTup lv65_0) (PTup lr65_0) × BTup lb65_0)) (x : PTup lc65_0) (y : PTup lb65_0) (z : PTup lv65_0) : Option (Sum (PTup lv65_0) (PTup lr65_0) × BTup lb65_0) :=
  bif (ltI z.1 (lenI y.1.1)) then (bif (leI (0 : Int) z.1) then (bif (ltI z.1 (lenI y.1.1)) then (bif (leI (0 : Int) z.1) then (bif (ltI z.1 (lenI y.2.1.1)) then ((c24 ((rdE .n y.1.1 z.1), ((rdE .n y.2.1.1 z.1), ()))).bind fun r0 =>
       bif (!r0.1.1) then (some ((Sum.inr (false, ())), (y.1, (y.2.1, ()))))
       else again (y.1, (y.2.1, ())) ((wI (z.1 + (1 : Int))), ()))
      else none)
     else none)
    else none)
   else none)
  else some ((Sum.inl z), (y.1, (y.2.1, ())))
noncomputable def e65_0 (l : PTup lc65_0 → PTup lb65_0 → PTup lv65_0 → Option (Sum (PTup lv65_0) (PTup lr65_0) × BTup lb65_0)) : LoopE := ⟨[], lc65_0, [2, 3], lb65_0, [5], lv65_0, [4], lr65_0, 0, l⟩
noncomputable def m65 (c64 : PTup i64 → Option (PTup o64 × BTup i64)) (c24 : PTup i24 → Option (PTup o24 × BTup i24)) (l0 : PTup lc65_0 → PTup lb65_0 → PTup lv65_0 → Option (Sum (PTup lv65_0) (PTup lr65_0) × BTup lb65_0)) (y : PTup i65) : Option (PTup o65 × BTup i65) :=
  bif (ltI (lenI y.2.1.1) (lenI y.1.1)) then (some ((false, ()), ()))
  else (c64 (y.1.2.1, (y.2.1.2.1, ()))).bind fun r0 =>
  bif (!r0.1.1) then (some ((false, ()), ()))
  else (c64 (y.1.2.2.1, y.2.1.2.2)).bind fun r1 =>
  bif (!r1.1.1) then (some ((false, ()), ()))
  else (l0 () (y.1, (y.2.1, ())) ((0 : Int), ())).bind fun r2 =>
  sumElim r2.1 (fun r3 => some ((true, ()), ()))
  (fun r3 => some (r3, ()))
noncomputable def E65 (c64 : PTup i64 → Option (PTup o64 × BTup i64)) (c24 : PTup i24 → Option (PTup o24 × BTup i24)) (l0 : PTup lc65_0 → PTup lb65_0 → PTup lv65_0 → Option (Sum (PTup lv65_0) (PTup lr65_0) × BTup lb65_0)) : CEnv := ⟨⟨Go.Proofs.Try.prog, fnsL [(64, ⟨i64, o64, c64⟩), (24, ⟨i24, o24, c24⟩)]⟩, loopsL [(4, e65_0 l0)]⟩
theorem t65_0 (c64 : PTup i64 → Option (PTup o64 × BTup i64)) (c24 : PTup i24 → Option (PTup o24 × BTup i24)) (l0 : PTup lc65_0 → PTup lb65_0 → PTup lv65_0 → Option (Sum (PTup lv65_0) (PTup lr65_0) × BTup lb65_0)) (again) (x y z) : loopRound (E65 c64 c24 l0) (loopAt (bodyOf Go.Proofs.Try.f65) 0) (e65_0 l0) Go.Proofs.Try.f65.ntmps again x y z = w65_0 c64 c24  again x y z := by kernel_rfl
noncomputable def n65_0 (c64 : PTup i64 → Option (PTup o64 × BTup i64)) (c24 : PTup i24 → Option (PTup o24 × BTup i24))  : Nat → PTup lc65_0 → PTup lb65_0 → PTup lv65_0 → Option (Sum (PTup lv65_0) (PTup lr65_0) × BTup lb65_0)
  | 0, _, _, _ => none
  | n + 1, x, y, z => w65_0 c64 c24  (fun y z => n65_0 c64 c24  n x y z) x y z
theorem s65 (c64 : PTup i64 → Option (PTup o64 × BTup i64)) (c24 : PTup i24 → Option (PTup o24 × BTup i24)) (l0 : PTup lc65_0 → PTup lb65_0 → PTup lv65_0 → Option (Sum (PTup lv65_0) (PTup lr65_0) × BTup lb65_0)) (y) : tevF (E65 c64 c24 l0) Go.Proofs.Try.f65 i65 o65 y = m65 c64 c24 l0 y := by kernel_rfl
noncomputable def L65_0 : PTup lc65_0 → PTup lb65_0 → PTup lv65_0 → Option (Sum (PTup lv65_0) (PTup lr65_0) × BTup lb65_0) := n65_0 r64 r24  fuel
noncomputable def r65 : PTup i65 → Option (PTup o65 × BTup i65) := m65 r64 r24 L65_0
theorem k65 : CallOk Go.Proofs.Try.prog 65 ⟨i65, o65, r65⟩ := by
  have hE : ∀ g f, (E65 r64 r24 L65_0).env.fns g = some f → CallOk Go.Proofs.Try.prog g f := fnsL_ok ⟨k64, k24, trivial⟩
  have h0 : LoopOk Go.Proofs.Try.prog Go.Proofs.Try.f65.ntmps (loopAt (bodyOf Go.Proofs.Try.f65) 0) (e65_0 L65_0) := lp_ok (E := E65 r64 r24 L65_0) rfl hE mixed (AllLoops.of_list (l := []) (by kernel_rfl) trivial) (n65_0 r64 r24 ) (fun _ _ _ => rfl) (fun n x y z => t65_0 r64 r24 L65_0 _ x y z) rfl
  exact fn_ok (E := E65 r64 r24 L65_0) rfl hE mixed (by kernel_rfl) (by kernel_rfl) (AllLoops.of_list (l := [(loopAt (bodyOf Go.Proofs.Try.f65) 0)]) (by kernel_rfl) (.one (by kernel_rfl) h0 trivial)) (s65 r64 r24 L65_0)
/- loop.example/g00231/spec.ObsSame -/
@[reducible] def i26 : List Ty := [.a [.sl false .n, .sl false .i, .sl false .i], .a [.sl false .n, .sl false .i, .sl false .i]]
@[reducible] def o26 : List Ty := [.v (.bool)]
noncomputable def m26 (c65 : PTup i65 → Option (PTup o65 × BTup i65))  (y : PTup i26) : Option (PTup o26 × BTup i26) :=
  (c65 (y.1, (y.2.1, ()))).bind fun r0 =>
  bif r0.1.1 then ((c65 (y.2.1, (y.1, ()))).bind fun r1 =>
   some (r1.1, ()))
  else some ((false, ()), ())
noncomputable def E26 (c65 : PTup i65 → Option (PTup o65 × BTup i65))  : CEnv := ⟨⟨Go.Proofs.Try.prog, fnsL [(65, ⟨i65, o65, c65⟩)]⟩, loopsL []⟩
theorem s26 (c65 : PTup i65 → Option (PTup o65 × BTup i65))  (y) : tevF (E26 c65 ) Go.Proofs.Try.f26 i26 o26 y = m26 c65  y := by kernel_rfl
noncomputable def r26 : PTup i26 → Option (PTup o26 × BTup i26) := m26 r65 
theorem k26 : CallOk Go.Proofs.Try.prog 26 ⟨i26, o26, r26⟩ := by
  have hE : ∀ g f, (E26 r65 ).env.fns g = some f → CallOk Go.Proofs.Try.prog g f := fnsL_ok ⟨k65, trivial⟩
  exact fn_ok (E := E26 r65 ) rfl hE mixed (by kernel_rfl) (by kernel_rfl) (AllLoops.of_list (l := []) (by kernel_rfl) trivial) (s26 r65 )
/- loop.example/g00231/spec.LockSame -/
@[reducible] def i6 : List Ty := [.a [.sl false .n, .sl false .i, .sl false .i, .int .i64, .int .i64, .int .i64, .int .i64, .int .i64, .bool, .bool, .bool, .bool, .int .i64, .int .i64, .int .i64, .int .i64, .int .i64, .bool, .sl false .i, .sl false .i, .int .i64, .int .i64, .int .i64, .int .i64, .int .i64, .bool, .bool, .bool, .int .i64, .bool, .int .i64, .sl false .n, .sl false .i, .sl false .i], .a [.sl false .n, .sl false .i, .sl false .i, .int .i64, .int .i64, .int .i64, .int .i64, .int .i64, .bool, .bool, .bool, .bool, .int .i64, .int .i64, .int .i64, .int .i64, .int .i64, .bool, .sl false .i, .sl false .i, .int .i64, .int .i64, .int .i64, .int .i64, .int .i64, .bool, .bool, .bool, .int .i64, .bool, .int .i64, .sl false .n, .sl false .i, .sl false .i]]
@[reducible] def o6 : List Ty := [.v (.bool)]
noncomputable def m6 (c26 : PTup i26 → Option (PTup o26 × BTup i26)) (c25 : PTup i25 → Option (PTup o25 × BTup i25)) (c24 : PTup i24 → Option (PTup o24 × BTup i24))  (y : PTup i6) : Option (PTup o6 × BTup i6) :=
  (c24 (y.1.2.2.1, (y.2.1.2.2.1, ()))).bind fun r0 =>
  bif r0.1.1 then (bif (eqI y.1.2.2.2.1 y.2.1.2.2.2.1) then (bif ((eqI y.1.2.2.2.2.1 y.2.1.2.2.2.2.1) && ((eqI y.1.2.2.2.2.2.1 y.2.1.2.2.2.2.2.1) && ((eqI y.1.2.2.2.2.2.2.1 y.2.1.2.2.2.2.2.2.1) && ((eqI y.1.2.2.2.2.2.2.2.1 y.2.1.2.2.2.2.2.2.2.1) && ((y.1.2.2.2.2.2.2.2.2.1 == y.2.1.2.2.2.2.2.2.2.2.1) && ((y.1.2.2.2.2.2.2.2.2.2.1 == y.2.1.2.2.2.2.2.2.2.2.2.1) && ((y.1.2.2.2.2.2.2.2.2.2.2.1 == y.2.1.2.2.2.2.2.2.2.2.2.2.1) && ((y.1.2.2.2.2.2.2.2.2.2.2.2.1 == y.2.1.2.2.2.2.2.2.2.2.2.2.2.1) && true)))))))) then ((c25 ((y.1.2.2.2.2.2.2.2.2.2.2.2.2.1, (y.1.2.2.2.2.2.2.2.2.2.2.2.2.2.1, (y.1.2.2.2.2.2.2.2.2.2.2.2.2.2.2.1, (y.1.2.2.2.2.2.2.2.2.2.2.2.2.2.2.2.1, (y.1.2.2.2.2.2.2.2.2.2.2.2.2.2.2.2.2.1, (y.1.2.2.2.2.2.2.2.2.2.2.2.2.2.2.2.2.2.1, (y.1.2.2.2.2.2.2.2.2.2.2.2.2.2.2.2.2.2.2.1, (y.1.2.2.2.2.2.2.2.2.2.2.2.2.2.2.2.2.2.2.2.1, ())))))))), ((y.2.1.2.2.2.2.2.2.2.2.2.2.2.2.1, (y.2.1.2.2.2.2.2.2.2.2.2.2.2.2.2.1, (y.2.1.2.2.2.2.2.2.2.2.2.2.2.2.2.2.1, (y.2.1.2.2.2.2.2.2.2.2.2.2.2.2.2.2.2.1, (y.2.1.2.2.2.2.2.2.2.2.2.2.2.2.2.2.2.2.1, (y.2.1.2.2.2.2.2.2.2.2.2.2.2.2.2.2.2.2.2.1, (y.2.1.2.2.2.2.2.2.2.2.2.2.2.2.2.2.2.2.2.2.1, (y.2.1.2.2.2.2.2.2.2.2.2.2.2.2.2.2.2.2.2.2.2.1, ())))))))), ()))).bind fun r1 =>
     bif r1.1.1 then (bif ((eqI y.1.2.2.2.2.2.2.2.2.2.2.2.2.2.2.2.2.2.2.2.2.1 y.2.1.2.2.2.2.2.2.2.2.2.2.2.2.2.2.2.2.2.2.2.2.1) && ((eqI y.1.2.2.2.2.2.2.2.2.2.2.2.2.2.2.2.2.2.2.2.2.2.1 y.2.1.2.2.2.2.2.2.2.2.2.2.2.2.2.2.2.2.2.2.2.2.2.1) && ((eqI y.1.2.2.2.2.2.2.2.2.2.2.2.2.2.2.2.2.2.2.2.2.2.2.1 y.2.1.2.2.2.2.2.2.2.2.2.2.2.2.2.2.2.2.2.2.2.2.2.2.1) && ((eqI y.1.2.2.2.2.2.2.2.2.2.2.2.2.2.2.2.2.2.2.2.2.2.2.2.1 y.2.1.2.2.2.2.2.2.2.2.2.2.2.2.2.2.2.2.2.2.2.2.2.2.2.1) && ((eqI y.1.2.2.2.2.2.2.2.2.2.2.2.2.2.2.2.2.2.2.2.2.2.2.2.2.1 y.2.1.2.2.2.2.2.2.2.2.2.2.2.2.2.2.2.2.2.2.2.2.2.2.2.2.1) && ((y.1.2.2.2.2.2.2.2.2.2.2.2.2.2.2.2.2.2.2.2.2.2.2.2.2.2.1 == y.2.1.2.2.2.2.2.2.2.2.2.2.2.2.2.2.2.2.2.2.2.2.2.2.2.2.2.1) && ((y.1.2.2.2.2.2.2.2.2.2.2.2.2.2.2.2.2.2.2.2.2.2.2.2.2.2.2.1 == y.2.1.2.2.2.2.2.2.2.2.2.2.2.2.2.2.2.2.2.2.2.2.2.2.2.2.2.2.1) && true))))))) then (bif ((y.1.2.2.2.2.2.2.2.2.2.2.2.2.2.2.2.2.2.2.2.2.2.2.2.2.2.2.2.1 == y.2.1.2.2.2.2.2.2.2.2.2.2.2.2.2.2.2.2.2.2.2.2.2.2.2.2.2.2.2.1) && ((eqI y.1.2.2.2.2.2.2.2.2.2.2.2.2.2.2.2.2.2.2.2.2.2.2.2.2.2.2.2.2.1 y.2.1.2.2.2.2.2.2.2.2.2.2.2.2.2.2.2.2.2.2.2.2.2.2.2.2.2.2.2.2.1) && true)) then (bif (y.1.2.2.2.2.2.2.2.2.2.2.2.2.2.2.2.2.2.2.2.2.2.2.2.2.2.2.2.2.2.1 == y.2.1.2.2.2.2.2.2.2.2.2.2.2.2.2.2.2.2.2.2.2.2.2.2.2.2.2.2.2.2.2.1) then (bif (eqI y.1.2.2.2.2.2.2.2.2.2.2.2.2.2.2.2.2.2.2.2.2.2.2.2.2.2.2.2.2.2.2.1 y.2.1.2.2.2.2.2.2.2.2.2.2.2.2.2.2.2.2.2.2.2.2.2.2.2.2.2.2.2.2.2.2.1) then ((c26 (y.1.2.2.2.2.2.2.2.2.2.2.2.2.2.2.2.2.2.2.2.2.2.2.2.2.2.2.2.2.2.2.2, (y.2.1.2.2.2.2.2.2.2.2.2.2.2.2.2.2.2.2.2.2.2.2.2.2.2.2.2.2.2.2.2.2.2, ()))).bind fun r2 =>
          some (r2.1, ()))
         else some ((false, ()), ()))
        else some ((false, ()), ()))
       else some ((false, ()), ()))
      else some ((false, ()), ()))
     else some ((false, ()), ()))
    else some ((false, ()), ()))
   else some ((false, ()), ()))
  else some ((false, ()), ())
noncomputable def E6 (c26 : PTup i26 → Option (PTup o26 × BTup i26)) (c25 : PTup i25 → Option (PTup o25 × BTup i25)) (c24 : PTup i24 → Option (PTup o24 × BTup i24))  : CEnv := ⟨⟨Go.Proofs.Try.prog, fnsL [(26, ⟨i26, o26, c26⟩), (25, ⟨i25, o25, c25⟩), (24, ⟨i24, o24, c24⟩)]⟩, loopsL []⟩
theorem s6 (c26 : PTup i26 → Option (PTup o26 × BTup i26)) (c25 : PTup i25 → Option (PTup o25 × BTup i25)) (c24 : PTup i24 → Option (PTup o24 × BTup i24))  (y) : tevF (E6 c26 c25 c24 ) Go.Proofs.Try.f6 i6 o6 y = m6 c26 c25 c24  y := by kernel_rfl
noncomputable def r6 : PTup i6 → Option (PTup o6 × BTup i6) := m6 r26 r25 r24 
theorem k6 : CallOk Go.Proofs.Try.prog 6 ⟨i6, o6, r6⟩ := by
  have hE : ∀ g f, (E6 r26 r25 r24 ).env.fns g = some f → CallOk Go.Proofs.Try.prog g f := fnsL_ok ⟨k26, k25, k24, trivial⟩
  exact fn_ok (E := E6 r26 r25 r24 ) rfl hE mixed (by kernel_rfl) (by kernel_rfl) (AllLoops.of_list (l := []) (by kernel_rfl) trivial) (s6 r26 r25 r24 )
/- slices.Equal[[]int,int] -/
@[reducible] def i67 : List Ty := [.v (.sl false .i), .v (.sl false .i)]
@[reducible] def o67 : List Ty := [.v (.bool)]
@[reducible] def lc67_0 : List Ty := [.v (.sl false .i), .v (.sl false .i), .v (.int .i64)]
@[reducible] def lb67_0 : List Ty := []
@[reducible] def lv67_0 : List Ty := [.v (.int .i64)]
@[reducible] def lr67_0 : List Ty := [.v (.bool)]
noncomputable def w67_0   (again : PTup lb67_0 → PTup lv67_0 → Option (Sum (PTup lv67_0) (PTup lr67_0) × BTup lb67_0)) (x : PTup lc67_0) (y : PTup lb67_0) (z : PTup lv67_0) : Option (Sum (PTup lv67_0) (PTup lr67_0) × BTup lb67_0) :=
  bif (ltI z.1 x.2.2.1) then (bif (leI (0 : Int) z.1) then (bif (ltI z.1 (lenI x.1)) then (bif (leI (0 : Int) z.1) then (bif (ltI z.1 (lenI x.2.1)) then (bif (neI (rdE .i x.1 z.1) (rdE .i x.2.1 z.1)) then (some ((Sum.inr (false, ())), ()))
       else again () ((wI (z.1 + (1 : Int))), ()))
      else none)
     else none)
    else none)
   else none)
  else some ((Sum.inl z), ())
noncomputable def e67_0 (l : PTup lc67_0 → PTup lb67_0 → PTup lv67_0 → Option (Sum (PTup lv67_0) (PTup lr67_0) × BTup lb67_0)) : LoopE := ⟨[0, 1, 12], lc67_0, [], lb67_0, [13], lv67_0, [4], lr67_0, 0, l⟩
noncomputable def m67  (l0 : PTup lc67_0 → PTup lb67_0 → PTup lv67_0 → Option (Sum (PTup lv67_0) (PTup lr67_0) × BTup lb67_0)) (y : PTup i67) : Option (PTup o67 × BTup i67) :=
  bif (neI (lenI y.1) (lenI y.2.1)) then (some ((false, ()), ()))
  else (l0 (y.1, (y.2.1, ((lenI y.1), ()))) () ((0 : Int), ())).bind fun r0 =>
  sumElim r0.1 (fun r1 => some ((true, ()), ()))
  (fun r1 => some (r1, ()))
noncomputable def E67  (l0 : PTup lc67_0 → PTup lb67_0 → PTup lv67_0 → Option (Sum (PTup lv67_0) (PTup lr67_0) × BTup lb67_0)) : CEnv := ⟨⟨Go.Proofs.Try.prog, fnsL []⟩, loopsL [(4, e67_0 l0)]⟩
theorem t67_0  (l0 : PTup lc67_0 → PTup lb67_0 → PTup lv67_0 → Option (Sum (PTup lv67_0) (PTup lr67_0) × BTup lb67_0)) (again) (x y z) : loopRound (E67  l0) (loopAt (bodyOf Go.Proofs.Try.f67) 0) (e67_0 l0) Go.Proofs.Try.f67.ntmps again x y z = w67_0   again x y z := by kernel_rfl
noncomputable def n67_0   : Nat → PTup lc67_0 → PTup lb67_0 → PTup lv67_0 → Option (Sum (PTup lv67_0) (PTup lr67_0) × BTup lb67_0)
  | 0, _, _, _ => none
  | n + 1, x, y, z => w67_0   (fun y z => n67_0   n x y z) x y z
theorem s67  (l0 : PTup lc67_0 → PTup lb67_0 → PTup lv67_0 → Option (Sum (PTup lv67_0) (PTup lr67_0) × BTup lb67_0)) (y) : tevF (E67  l0) Go.Proofs.Try.f67 i67 o67 y = m67  l0 y := by kernel_rfl
noncomputable def L67_0 : PTup lc67_0 → PTup lb67_0 → PTup lv67_0 → Option (Sum (PTup lv67_0) (PTup lr67_0) × BTup lb67_0) := n67_0   fuel
noncomputable def r67 : PTup i67 → Option (PTup o67 × BTup i67) := m67  L67_0
theorem k67 : CallOk Go.Proofs.Try.prog 67 ⟨i67, o67, r67⟩ := by
  have hE : ∀ g f, (E67  L67_0).env.fns g = some f → CallOk Go.Proofs.Try.prog g f := fnsL_ok trivial
  have h0 : LoopOk Go.Proofs.Try.prog Go.Proofs.Try.f67.ntmps (loopAt (bodyOf Go.Proofs.Try.f67) 0) (e67_0 L67_0) := lp_ok (E := E67  L67_0) rfl hE mixed (AllLoops.of_list (l := []) (by kernel_rfl) trivial) (n67_0  ) (fun _ _ _ => rfl) (fun n x y z => t67_0  L67_0 _ x y z) rfl
  exact fn_ok (E := E67  L67_0) rfl hE mixed (by kernel_rfl) (by kernel_rfl) (AllLoops.of_list (l := [(loopAt (bodyOf Go.Proofs.Try.f67) 0)]) (by kernel_rfl) (.one (by kernel_rfl) h0 trivial)) (s67  L67_0)
/- loop.example/g00231/impl.memSame -/
@[reducible] def i35 : List Ty := [.a [.sl false .i, .int .i64], .a [.sl false .i, .int .i64]]
@[reducible] def o35 : List Ty := [.v (.bool)]
noncomputable def m35 (c67 : PTup i67 → Option (PTup o67 × BTup i67))  (y : PTup i35) : Option (PTup o35 × BTup i35) :=
  bif (eqI y.1.2.1 y.2.1.2.1) then ((c67 (y.1.1, (y.2.1.1, ()))).bind fun r0 =>
   some (r0.1, ()))
  else some ((false, ()), ())
noncomputable def E35 (c67 : PTup i67 → Option (PTup o67 × BTup i67))  : CEnv := ⟨⟨Go.Proofs.Try.prog, fnsL [(67, ⟨i67, o67, c67⟩)]⟩, loopsL []⟩
theorem s35 (c67 : PTup i67 → Option (PTup o67 × BTup i67))  (y) : tevF (E35 c67 ) Go.Proofs.Try.f35 i35 o35 y = m35 c67  y := by kernel_rfl
noncomputable def r35 : PTup i35 → Option (PTup o35 × BTup i35) := m35 r67 
theorem k35 : CallOk Go.Proofs.Try.prog 35 ⟨i35, o35, r35⟩ := by
  have hE : ∀ g f, (E35 r67 ).env.fns g = some f → CallOk Go.Proofs.Try.prog g f := fnsL_ok ⟨k67, trivial⟩
  exact fn_ok (E := E35 r67 ) rfl hE mixed (by kernel_rfl) (by kernel_rfl) (AllLoops.of_list (l := []) (by kernel_rfl) trivial) (s35 r67 )
/- loop.example/g00231/impl.ppuSame -/
@[reducible] def i36 : List Ty := [.a [.int .i64, .int .i64, .int .i64, .int .i64, .int .i64, .bool, .sl false .i, .sl false .i], .a [.int .i64, .int .i64, .int .i64, .int .i64, .int .i64, .bool, .sl false .i, .sl false .i]]
@[reducible] def o36 : List Ty := [.v (.bool)]
noncomputable def m36 (c67 : PTup i67 → Option (PTup o67 × BTup i67))  (y : PTup i36) : Option (PTup o36 × BTup i36) :=
  bif (eqI y.1.1 y.2.1.1) then (bif (eqI y.1.2.1 y.2.1.2.1) then (bif (eqI y.1.2.2.1 y.2.1.2.2.1) then (bif (eqI y.1.2.2.2.1 y.2.1.2.2.2.1) then (bif (eqI y.1.2.2.2.2.1 y.2.1.2.2.2.2.1) then (bif (y.1.2.2.2.2.2.1 == y.2.1.2.2.2.2.2.1) then ((c67 (y.1.2.2.2.2.2.2.1, (y.2.1.2.2.2.2.2.2.1, ()))).bind fun r0 =>
        bif r0.1.1 then ((c67 (y.1.2.2.2.2.2.2.2.1, y.2.1.2.2.2.2.2.2.2)).bind fun r1 =>
         some (r1.1, ()))
        else some ((false, ()), ()))
       else some ((false, ()), ()))
      else some ((false, ()), ()))
     else some ((false, ()), ()))
    else some ((false, ()), ()))
   else some ((false, ()), ()))
  else some ((false, ()), ())
noncomputable def E36 (c67 : PTup i67 → Option (PTup o67 × BTup i67))  : CEnv := ⟨⟨Go.Proofs.Try.prog, fnsL [(67, ⟨i67, o67, c67⟩)]⟩, loopsL []⟩
theorem s36 (c67 : PTup i67 → Option (PTup o67 × BTup i67))  (y) : tevF (E36 c67 ) Go.Proofs.Try.f36 i36 o36 y = m36 c67  y := by kernel_rfl
noncomputable def r36 : PTup i36 → Option (PTup o36 × BTup i36) := m36 r67 
theorem k36 : CallOk Go.Proofs.Try.prog 36 ⟨i36, o36, r36⟩ := by
  have hE : ∀ g f, (E36 r67 ).env.fns g = some f → CallOk Go.Proofs.Try.prog g f := fnsL_ok ⟨k67, trivial⟩
  exact fn_ok (E := E36 r67 ) rfl hE mixed (by kernel_rfl) (by kernel_rfl) (AllLoops.of_list (l := []) (by kernel_rfl) trivial) (s36 r67 )
/- loop.example/g00231/impl.ObsSame$1 -/
@[reducible] def i69 : List Ty := [.v (.sl false .i), .v (.sl false .i)]
@[reducible] def o69 : List Ty := [.v (.bool)]
noncomputable def m69 (c67 : PTup i67 → Option (PTup o67 × BTup i67))  (y : PTup i69) : Option (PTup o69 × BTup i69) :=
  (c67 y).bind fun r0 =>
  some (r0.1, ())
noncomputable def E69 (c67 : PTup i67 → Option (PTup o67 × BTup i67))  : CEnv := ⟨⟨Go.Proofs.Try.prog, fnsL [(67, ⟨i67, o67, c67⟩)]⟩, loopsL []⟩
theorem s69 (c67 : PTup i67 → Option (PTup o67 × BTup i67))  (y) : tevF (E69 c67 ) Go.Proofs.Try.f69 i69 o69 y = m69 c67  y := by kernel_rfl
noncomputable def r69 : PTup i69 → Option (PTup o69 × BTup i69) := m69 r67 
theorem k69 : CallOk Go.Proofs.Try.prog 69 ⟨i69, o69, r69⟩ := by
  have hE : ∀ g f, (E69 r67 ).env.fns g = some f → CallOk Go.Proofs.Try.prog g f := fnsL_ok ⟨k67, trivial⟩
  exact fn_ok (E := E69 r67 ) rfl hE mixed (by kernel_rfl) (by kernel_rfl) (AllLoops.of_list (l := []) (by kernel_rfl) trivial) (s69 r67 )
/- slices.EqualFunc[[][]int,[][]int,[]int,[]int] -/
@[reducible] def i68 : List Ty := [.v (.sl false .n), .v (.sl false .n), .v (.fn 69)]
@[reducible] def o68 : List Ty := [.v (.bool)]
@[reducible] def lc68_0 : List Ty := [.v (.sl false .n), .v (.fn 69), .v (.sl false .n), .v (.int .i64)]
@[reducible] def lb68_0 : List Ty := []
@[reducible] def lv68_0 : List Ty := [.v (.int .i64)]
@[reducible] def lr68_0 : List Ty := [.v (.bool)]
noncomputable def w68_0 (c69 : PTup i69 → Option (PTup o69 × BTup i69))  (again : PTup lb68_0 → PTup lv68_0 → Option (Sum (PTup lv68_0) (PTup lr68_0) × BTup lb68_0)) (x : PTup lc68_0) (y : PTup lb68_0) (z : PTup lv68_0) : Option (Sum (PTup lv68_0) (PTup lr68_0) × BTup lb68_0) :=
  bif (ltI z.1 x.2.2.2.1) then (bif (leI (0 : Int) z.1) then (bif (ltI z.1 (lenI x.2.2.1)) then (bif (leI (0 : Int) z.1) then (bif (ltI z.1 (lenI x.1)) then ((c69 ((rdE .n x.2.2.1 z.1), ((rdE .n x.1 z.1), ()))).bind fun r0 =>
       bif (!r0.1.1) then (some ((Sum.inr (false, ())), ()))
       else again () ((wI (z.1 + (1 : Int))), ()))
      else none)
     else none)
    else none)
   else none)
  else some ((Sum.inl z), ())
noncomputable def e68_0 (l : PTup lc68_0 → PTup lb68_0 → PTup lv68_0 → Option (Sum (PTup lv68_0) (PTup lr68_0) × BTup lb68_0)) : LoopE := ⟨[1, 2, 15, 16], lc68_0, [], lb68_0, [17], lv68_0, [6], lr68_0, 0, l⟩
noncomputable def m68 (c69 : PTup i69 → Option (PTup o69 × BTup i69)) (l0 : PTup lc68_0 → PTup lb68_0 → PTup lv68_0 → Option (Sum (PTup lv68_0) (PTup lr68_0) × BTup lb68_0)) (y : PTup i68) : Option (PTup o68 × BTup i68) :=
  bif (neI (lenI y.1) (lenI y.2.1)) then (some ((false, ()), ()))
  else (l0 (y.2.1, ((), (y.1, ((lenI y.1), ())))) () ((0 : Int), ())).bind fun r0 =>
  sumElim r0.1 (fun r1 => some ((true, ()), ()))
  (fun r1 => some (r1, ()))
noncomputable def E68 (c69 : PTup i69 → Option (PTup o69 × BTup i69)) (l0 : PTup lc68_0 → PTup lb68_0 → PTup lv68_0 → Option (Sum (PTup lv68_0) (PTup lr68_0) × BTup lb68_0)) : CEnv := ⟨⟨Go.Proofs.Try.prog, fnsL [(69, ⟨i69, o69, c69⟩)]⟩, loopsL [(4, e68_0 l0)]⟩
theorem t68_0 (c69 : PTup i69 → Option (PTup o69 × BTup i69)) (l0 : PTup lc68_0 → PTup lb68_0 → PTup lv68_0 → Option (Sum (PTup lv68_0) (PTup lr68_0) × BTup lb68_0)) (again) (x y z) : loopRound (E68 c69 l0) (loopAt (bodyOf Go.Proofs.Try.f68) 0) (e68_0 l0) Go.Proofs.Try.f68.ntmps again x y z = w68_0 c69  again x y z := by kernel_rfl
noncomputable def n68_0 (c69 : PTup i69 → Option (PTup o69 × BTup i69))  : Nat → PTup lc68_0 → PTup lb68_0 → PTup lv68_0 → Option (Sum (PTup lv68_0) (PTup lr68_0) × BTup lb68_0)
  | 0, _, _, _ => none
  | n + 1, x, y, z => w68_0 c69  (fun y z => n68_0 c69  n x y z) x y z
theorem s68 (c69 : PTup i69 → Option (PTup o69 × BTup i69)) (l0 : PTup lc68_0 → PTup lb68_0 → PTup lv68_0 → Option (Sum (PTup lv68_0) (PTup lr68_0) × BTup lb68_0)) (y) : tevF (E68 c69 l0) Go.Proofs.Try.f68 i68 o68 y = m68 c69 l0 y := by kernel_rfl
noncomputable def L68_0 : PTup lc68_0 → PTup lb68_0 → PTup lv68_0 → Option (Sum (PTup lv68_0) (PTup lr68_0) × BTup lb68_0) := n68_0 r69  fuel
noncomputable def r68 : PTup i68 → Option (PTup o68 × BTup i68) := m68 r69 L68_0
theorem k68 : CallOk Go.Proofs.Try.prog 68 ⟨i68, o68, r68⟩ := by
  have hE : ∀ g f, (E68 r69 L68_0).env.fns g = some f → CallOk Go.Proofs.Try.prog g f := fnsL_ok ⟨k69, trivial⟩
  have h0 : LoopOk Go.Proofs.Try.prog Go.Proofs.Try.f68.ntmps (loopAt (bodyOf Go.Proofs.Try.f68) 0) (e68_0 L68_0) := lp_ok (E := E68 r69 L68_0) rfl hE mixed (AllLoops.of_list (l := []) (by kernel_rfl) trivial) (n68_0 r69 ) (fun _ _ _ => rfl) (fun n x y z => t68_0 r69 L68_0 _ x y z) rfl
  exact fn_ok (E := E68 r69 L68_0) rfl hE mixed (by kernel_rfl) (by kernel_rfl) (AllLoops.of_list (l := [(loopAt (bodyOf Go.Proofs.Try.f68) 0)]) (by kernel_rfl) (.one (by kernel_rfl) h0 trivial)) (s68 r69 L68_0)
/- loop.example/g00231/impl.ObsSame -/
@[reducible] def i37 : List Ty := [.a [.sl false .n, .sl false .i, .sl false .i], .a [.sl false .n, .sl false .i, .sl false .i]]
@[reducible] def o37 : List Ty := [.v (.bool)]
noncomputable def m37 (c68 : PTup i68 → Option (PTup o68 × BTup i68)) (c67 : PTup i67 → Option (PTup o67 × BTup i67))  (y : PTup i37) : Option (PTup o37 × BTup i37) :=
  (c68 (y.1.1, (y.2.1.1, ((), ())))).bind fun r0 =>
  bif r0.1.1 then ((c67 (y.1.2.1, (y.2.1.2.1, ()))).bind fun r1 =>
   bif r1.1.1 then ((c67 (y.1.2.2.1, y.2.1.2.2)).bind fun r2 =>
    some (r2.1, ()))
   else some ((false, ()), ()))
  else some ((false, ()), ())
noncomputable def E37 (c68 : PTup i68 → Option (PTup o68 × BTup i68)) (c67 : PTup i67 → Option (PTup o67 × BTup i67))  : CEnv := ⟨⟨Go.Proofs.Try.prog, fnsL [(68, ⟨i68, o68, c68⟩), (67, ⟨i67, o67, c67⟩)]⟩, loopsL []⟩
theorem s37 (c68 : PTup i68 → Option (PTup o68 × BTup i68)) (c67 : PTup i67 → Option (PTup o67 × BTup i67))  (y) : tevF (E37 c68 c67 ) Go.Proofs.Try.f37 i37 o37 y = m37 c68 c67  y := by kernel_rfl
noncomputable def r37 : PTup i37 → Option (PTup o37 × BTup i37) := m37 r68 r67 
theorem k37 : CallOk Go.Proofs.Try.prog 37 ⟨i37, o37, r37⟩ := by
  have hE : ∀ g f, (E37 r68 r67 ).env.fns g = some f → CallOk Go.Proofs.Try.prog g f := fnsL_ok ⟨k68, k67, trivial⟩
  exact fn_ok (E := E37 r68 r67 ) rfl hE mixed (by kernel_rfl) (by kernel_rfl) (AllLoops.of_list (l := []) (by kernel_rfl) trivial) (s37 r68 r67 )
/- loop.example/g00231/impl.LockSame -/
@[reducible] def i8 : List Ty := [.a [.sl false .n, .sl false .i, .sl false .i, .int .i64, .int .i64, .int .i64, .int .i64, .int .i64, .bool, .bool, .bool, .bool, .int .i64, .int .i64, .int .i64, .int .i64, .int .i64, .bool, .sl false .i, .sl false .i, .int .i64, .int .i64, .int .i64, .int .i64, .int .i64, .bool, .bool, .bool, .int .i64, .bool, .int .i64, .sl false .n, .sl false .i, .sl false .i], .a [.sl false .n, .sl false .i, .sl false .i, .int .i64, .int .i64, .int .i64, .int .i64, .int .i64, .bool, .bool, .bool, .bool, .int .i64, .int .i64, .int .i64, .int .i64, .int .i64, .bool, .sl false .i, .sl false .i, .int .i64, .int .i64, .int .i64, .int .i64, .int .i64, .bool, .bool, .bool, .int .i64, .bool, .int .i64, .sl false .n, .sl false .i, .sl false .i]]
@[reducible] def o8 : List Ty := [.v (.bool)]
noncomputable def m8 (c37 : PTup i37 → Option (PTup o37 × BTup i37)) (c35 : PTup i35 → Option (PTup o35 × BTup i35)) (c36 : PTup i36 → Option (PTup o36 × BTup i36))  (y : PTup i8) : Option (PTup o8 × BTup i8) :=
  bif ((eqI y.1.2.2.2.2.1 y.2.1.2.2.2.2.1) && ((eqI y.1.2.2.2.2.2.1 y.2.1.2.2.2.2.2.1) && ((eqI y.1.2.2.2.2.2.2.1 y.2.1.2.2.2.2.2.2.1) && ((eqI y.1.2.2.2.2.2.2.2.1 y.2.1.2.2.2.2.2.2.2.1) && ((y.1.2.2.2.2.2.2.2.2.1 == y.2.1.2.2.2.2.2.2.2.2.1) && ((y.1.2.2.2.2.2.2.2.2.2.1 == y.2.1.2.2.2.2.2.2.2.2.2.1) && ((y.1.2.2.2.2.2.2.2.2.2.2.1 == y.2.1.2.2.2.2.2.2.2.2.2.2.1) && ((y.1.2.2.2.2.2.2.2.2.2.2.2.1 == y.2.1.2.2.2.2.2.2.2.2.2.2.2.1) && true)))))))) then (bif ((eqI y.1.2.2.2.2.2.2.2.2.2.2.2.2.2.2.2.2.2.2.2.2.1 y.2.1.2.2.2.2.2.2.2.2.2.2.2.2.2.2.2.2.2.2.2.2.1) && ((eqI y.1.2.2.2.2.2.2.2.2.2.2.2.2.2.2.2.2.2.2.2.2.2.1 y.2.1.2.2.2.2.2.2.2.2.2.2.2.2.2.2.2.2.2.2.2.2.2.1) && ((eqI y.1.2.2.2.2.2.2.2.2.2.2.2.2.2.2.2.2.2.2.2.2.2.2.1 y.2.1.2.2.2.2.2.2.2.2.2.2.2.2.2.2.2.2.2.2.2.2.2.2.1) && ((eqI y.1.2.2.2.2.2.2.2.2.2.2.2.2.2.2.2.2.2.2.2.2.2.2.2.1 y.2.1.2.2.2.2.2.2.2.2.2.2.2.2.2.2.2.2.2.2.2.2.2.2.2.1) && ((eqI y.1.2.2.2.2.2.2.2.2.2.2.2.2.2.2.2.2.2.2.2.2.2.2.2.2.1 y.2.1.2.2.2.2.2.2.2.2.2.2.2.2.2.2.2.2.2.2.2.2.2.2.2.2.1) && ((y.1.2.2.2.2.2.2.2.2.2.2.2.2.2.2.2.2.2.2.2.2.2.2.2.2.2.1 == y.2.1.2.2.2.2.2.2.2.2.2.2.2.2.2.2.2.2.2.2.2.2.2.2.2.2.2.1) && ((y.1.2.2.2.2.2.2.2.2.2.2.2.2.2.2.2.2.2.2.2.2.2.2.2.2.2.2.1 == y.2.1.2.2.2.2.2.2.2.2.2.2.2.2.2.2.2.2.2.2.2.2.2.2.2.2.2.2.1) && true))))))) then (bif ((y.1.2.2.2.2.2.2.2.2.2.2.2.2.2.2.2.2.2.2.2.2.2.2.2.2.2.2.2.1 == y.2.1.2.2.2.2.2.2.2.2.2.2.2.2.2.2.2.2.2.2.2.2.2.2.2.2.2.2.2.1) && ((eqI y.1.2.2.2.2.2.2.2.2.2.2.2.2.2.2.2.2.2.2.2.2.2.2.2.2.2.2.2.2.1 y.2.1.2.2.2.2.2.2.2.2.2.2.2.2.2.2.2.2.2.2.2.2.2.2.2.2.2.2.2.2.1) && true)) then (bif (y.1.2.2.2.2.2.2.2.2.2.2.2.2.2.2.2.2.2.2.2.2.2.2.2.2.2.2.2.2.2.1 == y.2.1.2.2.2.2.2.2.2.2.2.2.2.2.2.2.2.2.2.2.2.2.2.2.2.2.2.2.2.2.2.1) then (bif (eqI y.1.2.2.2.2.2.2.2.2.2.2.2.2.2.2.2.2.2.2.2.2.2.2.2.2.2.2.2.2.2.2.1 y.2.1.2.2.2.2.2.2.2.2.2.2.2.2.2.2.2.2.2.2.2.2.2.2.2.2.2.2.2.2.2.2.1) then ((c35 ((y.1.2.2.1, (y.1.2.2.2.1, ())), ((y.2.1.2.2.1, (y.2.1.2.2.2.1, ())), ()))).bind fun r0 =>
       bif r0.1.1 then ((c36 ((y.1.2.2.2.2.2.2.2.2.2.2.2.2.1, (y.1.2.2.2.2.2.2.2.2.2.2.2.2.2.1, (y.1.2.2.2.2.2.2.2.2.2.2.2.2.2.2.1, (y.1.2.2.2.2.2.2.2.2.2.2.2.2.2.2.2.1, (y.1.2.2.2.2.2.2.2.2.2.2.2.2.2.2.2.2.1, (y.1.2.2.2.2.2.2.2.2.2.2.2.2.2.2.2.2.2.1, (y.1.2.2.2.2.2.2.2.2.2.2.2.2.2.2.2.2.2.2.1, (y.1.2.2.2.2.2.2.2.2.2.2.2.2.2.2.2.2.2.2.2.1, ())))))))), ((y.2.1.2.2.2.2.2.2.2.2.2.2.2.2.1, (y.2.1.2.2.2.2.2.2.2.2.2.2.2.2.2.1, (y.2.1.2.2.2.2.2.2.2.2.2.2.2.2.2.2.1, (y.2.1.2.2.2.2.2.2.2.2.2.2.2.2.2.2.2.1, (y.2.1.2.2.2.2.2.2.2.2.2.2.2.2.2.2.2.2.1, (y.2.1.2.2.2.2.2.2.2.2.2.2.2.2.2.2.2.2.2.1, (y.2.1.2.2.2.2.2.2.2.2.2.2.2.2.2.2.2.2.2.2.1, (y.2.1.2.2.2.2.2.2.2.2.2.2.2.2.2.2.2.2.2.2.2.1, ())))))))), ()))).bind fun r1 =>
        bif r1.1.1 then ((c37 (y.1.2.2.2.2.2.2.2.2.2.2.2.2.2.2.2.2.2.2.2.2.2.2.2.2.2.2.2.2.2.2.2, (y.2.1.2.2.2.2.2.2.2.2.2.2.2.2.2.2.2.2.2.2.2.2.2.2.2.2.2.2.2.2.2.2.2, ()))).bind fun r2 =>
         some (r2.1, ()))
        else some ((false, ()), ()))
       else some ((false, ()), ()))
      else some ((false, ()), ()))
     else some ((false, ()), ()))
    else some ((false, ()), ()))
   else some ((false, ()), ()))
  else some ((false, ()), ())
noncomputable def E8 (c37 : PTup i37 → Option (PTup o37 × BTup i37)) (c35 : PTup i35 → Option (PTup o35 × BTup i35)) (c36 : PTup i36 → Option (PTup o36 × BTup i36))  : CEnv := ⟨⟨Go.Proofs.Try.prog, fnsL [(37, ⟨i37, o37, c37⟩), (35, ⟨i35, o35, c35⟩), (36, ⟨i36, o36, c36⟩)]⟩, loopsL []⟩
theorem s8 (c37 : PTup i37 → Option (PTup o37 × BTup i37)) (c35 : PTup i35 → Option (PTup o35 × BTup i35)) (c36 : PTup i36 → Option (PTup o36 × BTup i36))  (y) : tevF (E8 c37 c35 c36 ) Go.Proofs.Try.f8 i8 o8 y = m8 c37 c35 c36  y := by kernel_rfl
noncomputable def r8 : PTup i8 → Option (PTup o8 × BTup i8) := m8 r37 r35 r36 
theorem k8 : CallOk Go.Proofs.Try.prog 8 ⟨i8, o8, r8⟩ := by
  have hE : ∀ g f, (E8 r37 r35 r36 ).env.fns g = some f → CallOk Go.Proofs.Try.prog g f := fnsL_ok ⟨k37, k35, k36, trivial⟩
  exact fn_ok (E := E8 r37 r35 r36 ) rfl hE mixed (by kernel_rfl) (by kernel_rfl) (AllLoops.of_list (l := []) (by kernel_rfl) trivial) (s8 r37 r35 r36 )
/- loop.example/g00231/laws.eqIntS -/
@[reducible] def i39 : List Ty := [.v (.sl false .i), .v (.sl false .i)]
@[reducible] def o39 : List Ty := [.v (.bool)]
@[reducible] def lc39_0 : List Ty := [.v (.sl false .i), .v (.sl false .i)]
@[reducible] def lb39_0 : List Ty := []
@[reducible] def lv39_0 : List Ty := [.v (.int .i64)]
@[reducible] def lr39_0 : List Ty := [.v (.bool)]
noncomputable def w39_0   (again : PTup lb39_0 → PTup lv39_0 → Option (Sum (PTup lv39_0) (PTup lr39_0) × BTup lb39_0)) (x : PTup lc39_0) (y : PTup lb39_0) (z : PTup lv39_0) : Option (Sum (PTup lv39_0) (PTup lr39_0) × BTup lb39_0) :=
  bif (ltI z.1 (lenI x.1)) then (bif (leI (0 : Int) z.1) then (bif (ltI z.1 (lenI x.1)) then (bif (leI (0 : Int) z.1) then (bif (ltI z.1 (lenI x.2.1)) then (bif (neI (rdE .i x.1 z.1) (rdE .i x.2.1 z.1)) then (some ((Sum.inr (false, ())), ()))
       else again () ((wI (z.1 + (1 : Int))), ()))
      else none)
     else none)
    else none)
   else none)
  else some ((Sum.inl z), ())
noncomputable def e39_0 (l : PTup lc39_0 → PTup lb39_0 → PTup lv39_0 → Option (Sum (PTup lv39_0) (PTup lr39_0) × BTup lb39_0)) : LoopE := ⟨[0, 1], lc39_0, [], lb39_0, [5], lv39_0, [4], lr39_0, 0, l⟩
noncomputable def m39  (l0 : PTup lc39_0 → PTup lb39_0 → PTup lv39_0 → Option (Sum (PTup lv39_0) (PTup lr39_0) × BTup lb39_0)) (y : PTup i39) : Option (PTup o39 × BTup i39) :=
  bif (neI (lenI y.1) (lenI y.2.1)) then (some ((false, ()), ()))
  else (l0 y () ((0 : Int), ())).bind fun r0 =>
  sumElim r0.1 (fun r1 => some ((true, ()), ()))
  (fun r1 => some (r1, ()))
noncomputable def E39  (l0 : PTup lc39_0 → PTup lb39_0 → PTup lv39_0 → Option (Sum (PTup lv39_0) (PTup lr39_0) × BTup lb39_0)) : CEnv := ⟨⟨Go.Proofs.Try.prog, fnsL []⟩, loopsL [(4, e39_0 l0)]⟩
theorem t39_0  (l0 : PTup lc39_0 → PTup lb39_0 → PTup lv39_0 → Option (Sum (PTup lv39_0) (PTup lr39_0) × BTup lb39_0)) (again) (x y z) : loopRound (E39  l0) (loopAt (bodyOf Go.Proofs.Try.f39) 0) (e39_0 l0) Go.Proofs.Try.f39.ntmps again x y z = w39_0   again x y z := by kernel_rfl
noncomputable def n39_0   : Nat → PTup lc39_0 → PTup lb39_0 → PTup lv39_0 → Option (Sum (PTup lv39_0) (PTup lr39_0) × BTup lb39_0)
  | 0, _, _, _ => none
  | n + 1, x, y, z => w39_0   (fun y z => n39_0   n x y z) x y z
theorem s39  (l0 : PTup lc39_0 → PTup lb39_0 → PTup lv39_0 → Option (Sum (PTup lv39_0) (PTup lr39_0) × BTup lb39_0)) (y) : tevF (E39  l0) Go.Proofs.Try.f39 i39 o39 y = m39  l0 y := by kernel_rfl
noncomputable def L39_0 : PTup lc39_0 → PTup lb39_0 → PTup lv39_0 → Option (Sum (PTup lv39_0) (PTup lr39_0) × BTup lb39_0) := n39_0   fuel
noncomputable def r39 : PTup i39 → Option (PTup o39 × BTup i39) := m39  L39_0
theorem k39 : CallOk Go.Proofs.Try.prog 39 ⟨i39, o39, r39⟩ := by
  have hE : ∀ g f, (E39  L39_0).env.fns g = some f → CallOk Go.Proofs.Try.prog g f := fnsL_ok trivial
  have h0 : LoopOk Go.Proofs.Try.prog Go.Proofs.Try.f39.ntmps (loopAt (bodyOf Go.Proofs.Try.f39) 0) (e39_0 L39_0) := lp_ok (E := E39  L39_0) rfl hE mixed (AllLoops.of_list (l := []) (by kernel_rfl) trivial) (n39_0  ) (fun _ _ _ => rfl) (fun n x y z => t39_0  L39_0 _ x y z) rfl
  exact fn_ok (E := E39  L39_0) rfl hE mixed (by kernel_rfl) (by kernel_rfl) (AllLoops.of_list (l := [(loopAt (bodyOf Go.Proofs.Try.f39) 0)]) (by kernel_rfl) (.one (by kernel_rfl) h0 trivial)) (s39  L39_0)
/- loop.example/g00231/laws.eqIntSS -/
@[reducible] def i52 : List Ty := [.v (.sl false .n), .v (.sl false .n)]
@[reducible] def o52 : List Ty := [.v (.bool)]
@[reducible] def lc52_0 : List Ty := [.v (.sl false .n), .v (.sl false .n)]
@[reducible] def lb52_0 : List Ty := []
@[reducible] def lv52_0 : List Ty := [.v (.int .i64)]
@[reducible] def lr52_0 : List Ty := [.v (.bool)]
noncomputable def w52_0 (c39 : PTup i39 → Option (PTup o39 × BTup i39))  (again : PTup lb52_0 → PTup lv52_0 → Option (Sum (PTup lv52_0) (PTup lr52_0) × BTup lb52_0)) (x : PTup lc52_0) (y : PTup lb52_0) (z : PTup lv52_0) : Option (Sum (PTup lv52_0) (PTup lr52_0) × BTup lb52_0) :=
  bif (ltI z.1 (lenI x.1)) then (bif (leI (0 : Int) z.1) then (bif (ltI z.1 (lenI x.1)) then (bif (leI (0 : Int) z.1) then (bif (ltI z.1 (lenI x.2.1)) then ((c39 ((rdE .n x.1 z.1), ((rdE .n x.2.1 z.1), ()))).bind fun r0 =>
       bif (!r0.1.1) then (some ((Sum.inr (false, ())), ()))
       else again () ((wI (z.1 + (1 : Int))), ()))
      else none)
     else none)
    else none)
   else none)
  else some ((Sum.inl z), ())
noncomputable def e52_0 (l : PTup lc52_0 → PTup lb52_0 → PTup lv52_0 → Option (Sum (PTup lv52_0) (PTup lr52_0) × BTup lb52_0)) : LoopE := ⟨[0, 1], lc52_0, [], lb52_0, [5], lv52_0, [4], lr52_0, 0, l⟩
noncomputable def m52 (c39 : PTup i39 → Option (PTup o39 × BTup i39)) (l0 : PTup lc52_0 → PTup lb52_0 → PTup lv52_0 → Option (Sum (PTup lv52_0) (PTup lr52_0) × BTup lb52_0)) (y : PTup i52) : Option (PTup o52 × BTup i52) :=
  bif (neI (lenI y.1) (lenI y.2.1)) then (some ((false, ()), ()))
  else (l0 y () ((0 : Int), ())).bind fun r0 =>
  sumElim r0.1 (fun r1 => some ((true, ()), ()))
  (fun r1 => some (r1, ()))
noncomputable def E52 (c39 : PTup i39 → Option (PTup o39 × BTup i39)) (l0 : PTup lc52_0 → PTup lb52_0 → PTup lv52_0 → Option (Sum (PTup lv52_0) (PTup lr52_0) × BTup lb52_0)) : CEnv := ⟨⟨Go.Proofs.Try.prog, fnsL [(39, ⟨i39, o39, c39⟩)]⟩, loopsL [(4, e52_0 l0)]⟩
theorem t52_0 (c39 : PTup i39 → Option (PTup o39 × BTup i39)) (l0 : PTup lc52_0 → PTup lb52_0 → PTup lv52_0 → Option (Sum (PTup lv52_0) (PTup lr52_0) × BTup lb52_0)) (again) (x y z) : loopRound (E52 c39 l0) (loopAt (bodyOf Go.Proofs.Try.f52) 0) (e52_0 l0) Go.Proofs.Try.f52.ntmps again x y z = w52_0 c39  again x y z := by kernel_rfl
noncomputable def n52_0 (c39 : PTup i39 → Option (PTup o39 × BTup i39))  : Nat → PTup lc52_0 → PTup lb52_0 → PTup lv52_0 → Option (Sum (PTup lv52_0) (PTup lr52_0) × BTup lb52_0)
  | 0, _, _, _ => none
  | n + 1, x, y, z => w52_0 c39  (fun y z => n52_0 c39  n x y z) x y z
theorem s52 (c39 : PTup i39 → Option (PTup o39 × BTup i39)) (l0 : PTup lc52_0 → PTup lb52_0 → PTup lv52_0 → Option (Sum (PTup lv52_0) (PTup lr52_0) × BTup lb52_0)) (y) : tevF (E52 c39 l0) Go.Proofs.Try.f52 i52 o52 y = m52 c39 l0 y := by kernel_rfl
noncomputable def L52_0 : PTup lc52_0 → PTup lb52_0 → PTup lv52_0 → Option (Sum (PTup lv52_0) (PTup lr52_0) × BTup lb52_0) := n52_0 r39  fuel
noncomputable def r52 : PTup i52 → Option (PTup o52 × BTup i52) := m52 r39 L52_0
theorem k52 : CallOk Go.Proofs.Try.prog 52 ⟨i52, o52, r52⟩ := by
  have hE : ∀ g f, (E52 r39 L52_0).env.fns g = some f → CallOk Go.Proofs.Try.prog g f := fnsL_ok ⟨k39, trivial⟩
  have h0 : LoopOk Go.Proofs.Try.prog Go.Proofs.Try.f52.ntmps (loopAt (bodyOf Go.Proofs.Try.f52) 0) (e52_0 L52_0) := lp_ok (E := E52 r39 L52_0) rfl hE mixed (AllLoops.of_list (l := []) (by kernel_rfl) trivial) (n52_0 r39 ) (fun _ _ _ => rfl) (fun n x y z => t52_0 r39 L52_0 _ x y z) rfl
  exact fn_ok (E := E52 r39 L52_0) rfl hE mixed (by kernel_rfl) (by kernel_rfl) (AllLoops.of_list (l := [(loopAt (bodyOf Go.Proofs.Try.f52) 0)]) (by kernel_rfl) (.one (by kernel_rfl) h0 trivial)) (s52 r39 L52_0)
/- loop.example/g00231/laws.eqImage -/
@[reducible] def i38 : List Ty := [.a [.sl false .n], .a [.sl false .n]]
@[reducible] def o38 : List Ty := [.v (.bool)]
noncomputable def m38 (c52 : PTup i52 → Option (PTup o52 × BTup i52))  (y : PTup i38) : Option (PTup o38 × BTup i38) :=
  (c52 (y.1.1, y.2.1)).bind fun r0 =>
  bif (!r0.1.1) then (some ((false, ()), ()))
  else some ((true, ()), ())
noncomputable def E38 (c52 : PTup i52 → Option (PTup o52 × BTup i52))  : CEnv := ⟨⟨Go.Proofs.Try.prog, fnsL [(52, ⟨i52, o52, c52⟩)]⟩, loopsL []⟩
theorem s38 (c52 : PTup i52 → Option (PTup o52 × BTup i52))  (y) : tevF (E38 c52 ) Go.Proofs.Try.f38 i38 o38 y = m38 c52  y := by kernel_rfl
noncomputable def r38 : PTup i38 → Option (PTup o38 × BTup i38) := m38 r52 
theorem k38 : CallOk Go.Proofs.Try.prog 38 ⟨i38, o38, r38⟩ := by
  have hE : ∀ g f, (E38 r52 ).env.fns g = some f → CallOk Go.Proofs.Try.prog g f := fnsL_ok ⟨k52, trivial⟩
  exact fn_ok (E := E38 r52 ) rfl hE mixed (by kernel_rfl) (by kernel_rfl) (AllLoops.of_list (l := []) (by kernel_rfl) trivial) (s38 r52 )
/- loop.example/g00231/laws.eqMem -/
@[reducible] def i40 : List Ty := [.a [.sl false .i, .int .i64], .a [.sl false .i, .int .i64]]
@[reducible] def o40 : List Ty := [.v (.bool)]
noncomputable def m40 (c39 : PTup i39 → Option (PTup o39 × BTup i39))  (y : PTup i40) : Option (PTup o40 × BTup i40) :=
  (c39 (y.1.1, (y.2.1.1, ()))).bind fun r0 =>
  bif (!r0.1.1) then (some ((false, ()), ()))
  else bif (neI y.1.2.1 y.2.1.2.1) then (some ((false, ()), ()))
  else some ((true, ()), ())
noncomputable def E40 (c39 : PTup i39 → Option (PTup o39 × BTup i39))  : CEnv := ⟨⟨Go.Proofs.Try.prog, fnsL [(39, ⟨i39, o39, c39⟩)]⟩, loopsL []⟩
theorem s40 (c39 : PTup i39 → Option (PTup o39 × BTup i39))  (y) : tevF (E40 c39 ) Go.Proofs.Try.f40 i40 o40 y = m40 c39  y := by kernel_rfl
noncomputable def r40 : PTup i40 → Option (PTup o40 × BTup i40) := m40 r39 
theorem k40 : CallOk Go.Proofs.Try.prog 40 ⟨i40, o40, r40⟩ := by
  have hE : ∀ g f, (E40 r39 ).env.fns g = some f → CallOk Go.Proofs.Try.prog g f := fnsL_ok ⟨k39, trivial⟩
  exact fn_ok (E := E40 r39 ) rfl hE mixed (by kernel_rfl) (by kernel_rfl) (AllLoops.of_list (l := []) (by kernel_rfl) trivial) (s40 r39 )
/- loop.example/g00231/laws.eqCpu -/
@[reducible] def i41 : List Ty := [.a [.int .i64, .int .i64, .int .i64, .int .i64, .bool, .bool, .bool, .bool], .a [.int .i64, .int .i64, .int .i64, .int .i64, .bool, .bool, .bool, .bool]]
@[reducible] def o41 : List Ty := [.v (.bool)]
noncomputable def m41   (y : PTup i41) : Option (PTup o41 × BTup i41) :=
  bif (neI y.1.1 y.2.1.1) then (some ((false, ()), ()))
  else bif (neI y.1.2.1 y.2.1.2.1) then (some ((false, ()), ()))
  else bif (neI y.1.2.2.1 y.2.1.2.2.1) then (some ((false, ()), ()))
  else bif (neI y.1.2.2.2.1 y.2.1.2.2.2.1) then (some ((false, ()), ()))
  else bif (!(y.1.2.2.2.2.1 == y.2.1.2.2.2.2.1)) then (some ((false, ()), ()))
  else bif (!(y.1.2.2.2.2.2.1 == y.2.1.2.2.2.2.2.1)) then (some ((false, ()), ()))
  else bif (!(y.1.2.2.2.2.2.2.1 == y.2.1.2.2.2.2.2.2.1)) then (some ((false, ()), ()))
  else bif (!(y.1.2.2.2.2.2.2.2.1 == y.2.1.2.2.2.2.2.2.2.1)) then (some ((false, ()), ()))
  else some ((true, ()), ())
noncomputable def E41   : CEnv := ⟨⟨Go.Proofs.Try.prog, fnsL []⟩, loopsL []⟩
theorem s41   (y) : tevF (E41  ) Go.Proofs.Try.f41 i41 o41 y = m41   y := by kernel_rfl
noncomputable def r41 : PTup i41 → Option (PTup o41 × BTup i41) := m41  
theorem k41 : CallOk Go.Proofs.Try.prog 41 ⟨i41, o41, r41⟩ := by
  have hE : ∀ g f, (E41  ).env.fns g = some f → CallOk Go.Proofs.Try.prog g f := fnsL_ok trivial
  exact fn_ok (E := E41  ) rfl hE mixed (by kernel_rfl) (by kernel_rfl) (AllLoops.of_list (l := []) (by kernel_rfl) trivial) (s41  )
/- loop.example/g00231/laws.eqPpu -/
@[reducible] def i42 : List Ty := [.a [.int .i64, .int .i64, .int .i64, .int .i64, .int .i64, .bool, .sl false .i, .sl false .i], .a [.int .i64, .int .i64, .int .i64, .int .i64, .int .i64, .bool, .sl false .i, .sl false .i]]
@[reducible] def o42 : List Ty := [.v (.bool)]
noncomputable def m42 (c39 : PTup i39 → Option (PTup o39 × BTup i39))  (y : PTup i42) : Option (PTup o42 × BTup i42) :=
  bif (neI y.1.1 y.2.1.1) then (some ((false, ()), ()))
  else bif (neI y.1.2.1 y.2.1.2.1) then (some ((false, ()), ()))
  else bif (neI y.1.2.2.1 y.2.1.2.2.1) then (some ((false, ()), ()))
  else bif (neI y.1.2.2.2.1 y.2.1.2.2.2.1) then (some ((false, ()), ()))
  else bif (neI y.1.2.2.2.2.1 y.2.1.2.2.2.2.1) then (some ((false, ()), ()))
  else bif (!(y.1.2.2.2.2.2.1 == y.2.1.2.2.2.2.2.1)) then (some ((false, ()), ()))
  else (c39 (y.1.2.2.2.2.2.2.1, (y.2.1.2.2.2.2.2.2.1, ()))).bind fun r0 =>
  bif (!r0.1.1) then (some ((false, ()), ()))
  else (c39 (y.1.2.2.2.2.2.2.2.1, y.2.1.2.2.2.2.2.2.2)).bind fun r1 =>
  bif (!r1.1.1) then (some ((false, ()), ()))
  else some ((true, ()), ())
noncomputable def E42 (c39 : PTup i39 → Option (PTup o39 × BTup i39))  : CEnv := ⟨⟨Go.Proofs.Try.prog, fnsL [(39, ⟨i39, o39, c39⟩)]⟩, loopsL []⟩
theorem s42 (c39 : PTup i39 → Option (PTup o39 × BTup i39))  (y) : tevF (E42 c39 ) Go.Proofs.Try.f42 i42 o42 y = m42 c39  y := by kernel_rfl
noncomputable def r42 : PTup i42 → Option (PTup o42 × BTup i42) := m42 r39 
theorem k42 : CallOk Go.Proofs.Try.prog 42 ⟨i42, o42, r42⟩ := by
  have hE : ∀ g f, (E42 r39 ).env.fns g = some f → CallOk Go.Proofs.Try.prog g f := fnsL_ok ⟨k39, trivial⟩
  exact fn_ok (E := E42 r39 ) rfl hE mixed (by kernel_rfl) (by kernel_rfl) (AllLoops.of_list (l := []) (by kernel_rfl) trivial) (s42 r39 )
/- loop.example/g00231/laws.eqApu -/
@[reducible] def i43 : List Ty := [.a [.int .i64, .int .i64, .int .i64, .int .i64, .int .i64, .bool, .bool], .a [.int .i64, .int .i64, .int .i64, .int .i64, .int .i64, .bool, .bool]]
@[reducible] def o43 : List Ty := [.v (.bool)]
noncomputable def m43   (y : PTup i43) : Option (PTup o43 × BTup i43) :=
  bif (neI y.1.1 y.2.1.1) then (some ((false, ()), ()))
  else bif (neI y.1.2.1 y.2.1.2.1) then (some ((false, ()), ()))
  else bif (neI y.1.2.2.1 y.2.1.2.2.1) then (some ((false, ()), ()))
  else bif (neI y.1.2.2.2.1 y.2.1.2.2.2.1) then (some ((false, ()), ()))
  else bif (neI y.1.2.2.2.2.1 y.2.1.2.2.2.2.1) then (some ((false, ()), ()))
  else bif (!(y.1.2.2.2.2.2.1 == y.2.1.2.2.2.2.2.1)) then (some ((false, ()), ()))
  else bif (!(y.1.2.2.2.2.2.2.1 == y.2.1.2.2.2.2.2.2.1)) then (some ((false, ()), ()))
  else some ((true, ()), ())
noncomputable def E43   : CEnv := ⟨⟨Go.Proofs.Try.prog, fnsL []⟩, loopsL []⟩
theorem s43   (y) : tevF (E43  ) Go.Proofs.Try.f43 i43 o43 y = m43   y := by kernel_rfl
noncomputable def r43 : PTup i43 → Option (PTup o43 × BTup i43) := m43  
theorem k43 : CallOk Go.Proofs.Try.prog 43 ⟨i43, o43, r43⟩ := by
  have hE : ∀ g f, (E43  ).env.fns g = some f → CallOk Go.Proofs.Try.prog g f := fnsL_ok trivial
  exact fn_ok (E := E43  ) rfl hE mixed (by kernel_rfl) (by kernel_rfl) (AllLoops.of_list (l := []) (by kernel_rfl) trivial) (s43  )
/- loop.example/g00231/laws.eqPad -/
@[reducible] def i44 : List Ty := [.a [.bool, .int .i64], .a [.bool, .int .i64]]
@[reducible] def o44 : List Ty := [.v (.bool)]
noncomputable def m44   (y : PTup i44) : Option (PTup o44 × BTup i44) :=
  bif (!(y.1.1 == y.2.1.1)) then (some ((false, ()), ()))
  else bif (neI y.1.2.1 y.2.1.2.1) then (some ((false, ()), ()))
  else some ((true, ()), ())
noncomputable def E44   : CEnv := ⟨⟨Go.Proofs.Try.prog, fnsL []⟩, loopsL []⟩
theorem s44   (y) : tevF (E44  ) Go.Proofs.Try.f44 i44 o44 y = m44   y := by kernel_rfl
noncomputable def r44 : PTup i44 → Option (PTup o44 × BTup i44) := m44  
theorem k44 : CallOk Go.Proofs.Try.prog 44 ⟨i44, o44, r44⟩ := by
  have hE : ∀ g f, (E44  ).env.fns g = some f → CallOk Go.Proofs.Try.prog g f := fnsL_ok trivial
  exact fn_ok (E := E44  ) rfl hE mixed (by kernel_rfl) (by kernel_rfl) (AllLoops.of_list (l := []) (by kernel_rfl) trivial) (s44  )
/- loop.example/g00231/laws.eqObs -/
@[reducible] def i14 : List Ty := [.a [.sl false .n, .sl false .i, .sl false .i], .a [.sl false .n, .sl false .i, .sl false .i]]
@[reducible] def o14 : List Ty := [.v (.bool)]
noncomputable def m14 (c39 : PTup i39 → Option (PTup o39 × BTup i39)) (c52 : PTup i52 → Option (PTup o52 × BTup i52))  (y : PTup i14) : Option (PTup o14 × BTup i14) :=
  (c52 (y.1.1, (y.2.1.1, ()))).bind fun r0 =>
  bif (!r0.1.1) then (some ((false, ()), ()))
  else (c39 (y.1.2.1, (y.2.1.2.1, ()))).bind fun r1 =>
  bif (!r1.1.1) then (some ((false, ()), ()))
  else (c39 (y.1.2.2.1, y.2.1.2.2)).bind fun r2 =>
  bif (!r2.1.1) then (some ((false, ()), ()))
  else some ((true, ()), ())
noncomputable def E14 (c39 : PTup i39 → Option (PTup o39 × BTup i39)) (c52 : PTup i52 → Option (PTup o52 × BTup i52))  : CEnv := ⟨⟨Go.Proofs.Try.prog, fnsL [(39, ⟨i39, o39, c39⟩), (52, ⟨i52, o52, c52⟩)]⟩, loopsL []⟩
theorem s14 (c39 : PTup i39 → Option (PTup o39 × BTup i39)) (c52 : PTup i52 → Option (PTup o52 × BTup i52))  (y) : tevF (E14 c39 c52 ) Go.Proofs.Try.f14 i14 o14 y = m14 c39 c52  y := by kernel_rfl
noncomputable def r14 : PTup i14 → Option (PTup o14 × BTup i14) := m14 r39 r52 
theorem k14 : CallOk Go.Proofs.Try.prog 14 ⟨i14, o14, r14⟩ := by
  have hE : ∀ g f, (E14 r39 r52 ).env.fns g = some f → CallOk Go.Proofs.Try.prog g f := fnsL_ok ⟨k39, k52, trivial⟩
  exact fn_ok (E := E14 r39 r52 ) rfl hE mixed (by kernel_rfl) (by kernel_rfl) (AllLoops.of_list (l := []) (by kernel_rfl) trivial) (s14 r39 r52 )
/- loop.example/g00231/laws.eqLock -/
@[reducible] def i9 : List Ty := [.a [.sl false .n, .sl false .i, .sl false .i, .int .i64, .int .i64, .int .i64, .int .i64, .int .i64, .bool, .bool, .bool, .bool, .int .i64, .int .i64, .int .i64, .int .i64, .int .i64, .bool, .sl false .i, .sl false .i, .int .i64, .int .i64, .int .i64, .int .i64, .int .i64, .bool, .bool, .bool, .int .i64, .bool, .int .i64, .sl false .n, .sl false .i, .sl false .i], .a [.sl false .n, .sl false .i, .sl false .i, .int .i64, .int .i64, .int .i64, .int .i64, .int .i64, .bool, .bool, .bool, .bool, .int .i64, .int .i64, .int .i64, .int .i64, .int .i64, .bool, .sl false .i, .sl false .i, .int .i64, .int .i64, .int .i64, .int .i64, .int .i64, .bool, .bool, .bool, .int .i64, .bool, .int .i64, .sl false .n, .sl false .i, .sl false .i]]
@[reducible] def o9 : List Ty := [.v (.bool)]
noncomputable def m9 (c43 : PTup i43 → Option (PTup o43 × BTup i43)) (c41 : PTup i41 → Option (PTup o41 × BTup i41)) (c38 : PTup i38 → Option (PTup o38 × BTup i38)) (c39 : PTup i39 → Option (PTup o39 × BTup i39)) (c40 : PTup i40 → Option (PTup o40 × BTup i40)) (c14 : PTup i14 → Option (PTup o14 × BTup i14)) (c44 : PTup i44 → Option (PTup o44 × BTup i44)) (c42 : PTup i42 → Option (PTup o42 × BTup i42))  (y : PTup i9) : Option (PTup o9 × BTup i9) :=
  (c38 ((y.1.1, ()), ((y.2.1.1, ()), ()))).bind fun r0 =>
  bif (!r0.1.1) then (some ((false, ()), ()))
  else (c39 (y.1.2.1, (y.2.1.2.1, ()))).bind fun r1 =>
  bif (!r1.1.1) then (some ((false, ()), ()))
  else (c40 ((y.1.2.2.1, (y.1.2.2.2.1, ())), ((y.2.1.2.2.1, (y.2.1.2.2.2.1, ())), ()))).bind fun r2 =>
  bif (!r2.1.1) then (some ((false, ()), ()))
  else (c41 ((y.1.2.2.2.2.1, (y.1.2.2.2.2.2.1, (y.1.2.2.2.2.2.2.1, (y.1.2.2.2.2.2.2.2.1, (y.1.2.2.2.2.2.2.2.2.1, (y.1.2.2.2.2.2.2.2.2.2.1, (y.1.2.2.2.2.2.2.2.2.2.2.1, (y.1.2.2.2.2.2.2.2.2.2.2.2.1, ())))))))), ((y.2.1.2.2.2.2.1, (y.2.1.2.2.2.2.2.1, (y.2.1.2.2.2.2.2.2.1, (y.2.1.2.2.2.2.2.2.2.1, (y.2.1.2.2.2.2.2.2.2.2.1, (y.2.1.2.2.2.2.2.2.2.2.2.1, (y.2.1.2.2.2.2.2.2.2.2.2.2.1, (y.2.1.2.2.2.2.2.2.2.2.2.2.2.1, ())))))))), ()))).bind fun r3 =>
  bif (!r3.1.1) then (some ((false, ()), ()))
  else (c42 ((y.1.2.2.2.2.2.2.2.2.2.2.2.2.1, (y.1.2.2.2.2.2.2.2.2.2.2.2.2.2.1, (y.1.2.2.2.2.2.2.2.2.2.2.2.2.2.2.1, (y.1.2.2.2.2.2.2.2.2.2.2.2.2.2.2.2.1, (y.1.2.2.2.2.2.2.2.2.2.2.2.2.2.2.2.2.1, (y.1.2.2.2.2.2.2.2.2.2.2.2.2.2.2.2.2.2.1, (y.1.2.2.2.2.2.2.2.2.2.2.2.2.2.2.2.2.2.2.1, (y.1.2.2.2.2.2.2.2.2.2.2.2.2.2.2.2.2.2.2.2.1, ())))))))), ((y.2.1.2.2.2.2.2.2.2.2.2.2.2.2.1, (y.2.1.2.2.2.2.2.2.2.2.2.2.2.2.2.1, (y.2.1.2.2.2.2.2.2.2.2.2.2.2.2.2.2.1, (y.2.1.2.2.2.2.2.2.2.2.2.2.2.2.2.2.2.1, (y.2.1.2.2.2.2.2.2.2.2.2.2.2.2.2.2.2.2.1, (y.2.1.2.2.2.2.2.2.2.2.2.2.2.2.2.2.2.2.2.1, (y.2.1.2.2.2.2.2.2.2.2.2.2.2.2.2.2.2.2.2.2.1, (y.2.1.2.2.2.2.2.2.2.2.2.2.2.2.2.2.2.2.2.2.2.1, ())))))))), ()))).bind fun r4 =>
  bif (!r4.1.1) then (some ((false, ()), ()))
  else (c43 ((y.1.2.2.2.2.2.2.2.2.2.2.2.2.2.2.2.2.2.2.2.2.1, (y.1.2.2.2.2.2.2.2.2.2.2.2.2.2.2.2.2.2.2.2.2.2.1, (y.1.2.2.2.2.2.2.2.2.2.2.2.2.2.2.2.2.2.2.2.2.2.2.1, (y.1.2.2.2.2.2.2.2.2.2.2.2.2.2.2.2.2.2.2.2.2.2.2.2.1, (y.1.2.2.2.2.2.2.2.2.2.2.2.2.2.2.2.2.2.2.2.2.2.2.2.2.1, (y.1.2.2.2.2.2.2.2.2.2.2.2.2.2.2.2.2.2.2.2.2.2.2.2.2.2.1, (y.1.2.2.2.2.2.2.2.2.2.2.2.2.2.2.2.2.2.2.2.2.2.2.2.2.2.2.1, ()))))))), ((y.2.1.2.2.2.2.2.2.2.2.2.2.2.2.2.2.2.2.2.2.2.2.1, (y.2.1.2.2.2.2.2.2.2.2.2.2.2.2.2.2.2.2.2.2.2.2.2.1, (y.2.1.2.2.2.2.2.2.2.2.2.2.2.2.2.2.2.2.2.2.2.2.2.2.1, (y.2.1.2.2.2.2.2.2.2.2.2.2.2.2.2.2.2.2.2.2.2.2.2.2.2.1, (y.2.1.2.2.2.2.2.2.2.2.2.2.2.2.2.2.2.2.2.2.2.2.2.2.2.2.1, (y.2.1.2.2.2.2.2.2.2.2.2.2.2.2.2.2.2.2.2.2.2.2.2.2.2.2.2.1, (y.2.1.2.2.2.2.2.2.2.2.2.2.2.2.2.2.2.2.2.2.2.2.2.2.2.2.2.2.1, ()))))))), ()))).bind fun r5 =>
  bif (!r5.1.1) then (some ((false, ()), ()))
  else (c44 ((y.1.2.2.2.2.2.2.2.2.2.2.2.2.2.2.2.2.2.2.2.2.2.2.2.2.2.2.2.1, (y.1.2.2.2.2.2.2.2.2.2.2.2.2.2.2.2.2.2.2.2.2.2.2.2.2.2.2.2.2.1, ())), ((y.2.1.2.2.2.2.2.2.2.2.2.2.2.2.2.2.2.2.2.2.2.2.2.2.2.2.2.2.2.1, (y.2.1.2.2.2.2.2.2.2.2.2.2.2.2.2.2.2.2.2.2.2.2.2.2.2.2.2.2.2.2.1, ())), ()))).bind fun r6 =>
  bif (!r6.1.1) then (some ((false, ()), ()))
  else bif (!(y.1.2.2.2.2.2.2.2.2.2.2.2.2.2.2.2.2.2.2.2.2.2.2.2.2.2.2.2.2.2.1 == y.2.1.2.2.2.2.2.2.2.2.2.2.2.2.2.2.2.2.2.2.2.2.2.2.2.2.2.2.2.2.2.1)) then (some ((false, ()), ()))
  else bif (neI y.1.2.2.2.2.2.2.2.2.2.2.2.2.2.2.2.2.2.2.2.2.2.2.2.2.2.2.2.2.2.2.1 y.2.1.2.2.2.2.2.2.2.2.2.2.2.2.2.2.2.2.2.2.2.2.2.2.2.2.2.2.2.2.2.2.1) then (some ((false, ()), ()))
  else (c14 (y.1.2.2.2.2.2.2.2.2.2.2.2.2.2.2.2.2.2.2.2.2.2.2.2.2.2.2.2.2.2.2.2, (y.2.1.2.2.2.2.2.2.2.2.2.2.2.2.2.2.2.2.2.2.2.2.2.2.2.2.2.2.2.2.2.2.2, ()))).bind fun r7 =>
  bif (!r7.1.1) then (some ((false, ()), ()))
  else some ((true, ()), ())
noncomputable def E9 (c43 : PTup i43 → Option (PTup o43 × BTup i43)) (c41 : PTup i41 → Option (PTup o41 × BTup i41)) (c38 : PTup i38 → Option (PTup o38 × BTup i38)) (c39 : PTup i39 → Option (PTup o39 × BTup i39)) (c40 : PTup i40 → Option (PTup o40 × BTup i40)) (c14 : PTup i14 → Option (PTup o14 × BTup i14)) (c44 : PTup i44 → Option (PTup o44 × BTup i44)) (c42 : PTup i42 → Option (PTup o42 × BTup i42))  : CEnv := ⟨⟨Go.Proofs.Try.prog, fnsL [(43, ⟨i43, o43, c43⟩), (41, ⟨i41, o41, c41⟩), (38, ⟨i38, o38, c38⟩), (39, ⟨i39, o39, c39⟩), (40, ⟨i40, o40, c40⟩), (14, ⟨i14, o14, c14⟩), (44, ⟨i44, o44, c44⟩), (42, ⟨i42, o42, c42⟩)]⟩, loopsL []⟩
theorem s9 (c43 : PTup i43 → Option (PTup o43 × BTup i43)) (c41 : PTup i41 → Option (PTup o41 × BTup i41)) (c38 : PTup i38 → Option (PTup o38 × BTup i38)) (c39 : PTup i39 → Option (PTup o39 × BTup i39)) (c40 : PTup i40 → Option (PTup o40 × BTup i40)) (c14 : PTup i14 → Option (PTup o14 × BTup i14)) (c44 : PTup i44 → Option (PTup o44 × BTup i44)) (c42 : PTup i42 → Option (PTup o42 × BTup i42))  (y) : tevF (E9 c43 c41 c38 c39 c40 c14 c44 c42 ) Go.Proofs.Try.f9 i9 o9 y = m9 c43 c41 c38 c39 c40 c14 c44 c42  y := by kernel_rfl
noncomputable def r9 : PTup i9 → Option (PTup o9 × BTup i9) := m9 r43 r41 r38 r39 r40 r14 r44 r42 
theorem k9 : CallOk Go.Proofs.Try.prog 9 ⟨i9, o9, r9⟩ := by
  have hE : ∀ g f, (E9 r43 r41 r38 r39 r40 r14 r44 r42 ).env.fns g = some f → CallOk Go.Proofs.Try.prog g f := fnsL_ok ⟨k43, k41, k38, k39, k40, k14, k44, k42, trivial⟩
  exact fn_ok (E := E9 r43 r41 r38 r39 r40 r14 r44 r42 ) rfl hE mixed (by kernel_rfl) (by kernel_rfl) (AllLoops.of_list (l := []) (by kernel_rfl) trivial) (s9 r43 r41 r38 r39 r40 r14 r44 r42 )
/- loop.example/g00231/laws.FnExactLockSame -/
@[reducible] def i3 : List Ty := [.a [.sl false .n, .sl false .i, .sl false .i, .int .i64, .int .i64, .int .i64, .int .i64, .int .i64, .bool, .bool, .bool, .bool, .int .i64, .int .i64, .int .i64, .int .i64, .int .i64, .bool, .sl false .i, .sl false .i, .int .i64, .int .i64, .int .i64, .int .i64, .int .i64, .bool, .bool, .bool, .int .i64, .bool, .int .i64, .sl false .n, .sl false .i, .sl false .i], .a [.sl false .n, .sl false .i, .sl false .i, .int .i64, .int .i64, .int .i64, .int .i64, .int .i64, .bool, .bool, .bool, .bool, .int .i64, .int .i64, .int .i64, .int .i64, .int .i64, .bool, .sl false .i, .sl false .i, .int .i64, .int .i64, .int .i64, .int .i64, .int .i64, .bool, .bool, .bool, .int .i64, .bool, .int .i64, .sl false .n, .sl false .i, .sl false .i]]
@[reducible] def o3 : List Ty := [.v (.bool)]
noncomputable def m3 (c8 : PTup i8 → Option (PTup o8 × BTup i8)) (c9 : PTup i9 → Option (PTup o9 × BTup i9)) (c5 : PTup i5 → Option (PTup o5 × BTup i5)) (c7 : PTup i7 → Option (PTup o7 × BTup i7)) (c6 : PTup i6 → Option (PTup o6 × BTup i6))  (y : PTup i3) : Option (PTup o3 × BTup i3) :=
  (c5 (y.1, ((1048576 : Int), ()))).bind fun r0 =>
  bif (ltI r0.1.1 (0 : Int)) then (some ((true, ()), ()))
  else (c5 (y.2.1, r0.1)).bind fun r1 =>
  bif (ltI r1.1.1 (0 : Int)) then (some ((true, ()), ()))
  else (c7 (y.1, ())).bind fun r2 =>
  (c7 (y.2.1, ())).bind fun r3 =>
  (c6 (r2.1.1, (r3.1.1, ()))).bind fun r4 =>
  (c7 (y.1, ())).bind fun r5 =>
  (c7 (y.2.1, ())).bind fun r6 =>
  (c8 (r5.1.1, (r6.1.1, ()))).bind fun r7 =>
  bif (!(r7.1.1 == r4.1.1)) then (some ((false, ()), ()))
  else (c7 (y.1, ())).bind fun r8 =>
  (c9 (r5.1.1, (r8.1.1, ()))).bind fun r9 =>
  bif (!r9.1.1) then (some ((false, ()), ()))
  else (c7 (y.2.1, ())).bind fun r10 =>
  (c9 (r6.1.1, (r10.1.1, ()))).bind fun r11 =>
  bif (!r11.1.1) then (some ((false, ()), ()))
  else some ((true, ()), ())
noncomputable def E3 (c8 : PTup i8 → Option (PTup o8 × BTup i8)) (c9 : PTup i9 → Option (PTup o9 × BTup i9)) (c5 : PTup i5 → Option (PTup o5 × BTup i5)) (c7 : PTup i7 → Option (PTup o7 × BTup i7)) (c6 : PTup i6 → Option (PTup o6 × BTup i6))  : CEnv := ⟨⟨Go.Proofs.Try.prog, fnsL [(8, ⟨i8, o8, c8⟩), (9, ⟨i9, o9, c9⟩), (5, ⟨i5, o5, c5⟩), (7, ⟨i7, o7, c7⟩), (6, ⟨i6, o6, c6⟩)]⟩, loopsL []⟩
theorem s3 (c8 : PTup i8 → Option (PTup o8 × BTup i8)) (c9 : PTup i9 → Option (PTup o9 × BTup i9)) (c5 : PTup i5 → Option (PTup o5 × BTup i5)) (c7 : PTup i7 → Option (PTup o7 × BTup i7)) (c6 : PTup i6 → Option (PTup o6 × BTup i6))  (y) : tevF (E3 c8 c9 c5 c7 c6 ) Go.Proofs.Try.f3 i3 o3 y = m3 c8 c9 c5 c7 c6  y := by kernel_rfl
noncomputable def r3 : PTup i3 → Option (PTup o3 × BTup i3) := m3 r8 r9 r5 r7 r6 
theorem k3 : CallOk Go.Proofs.Try.prog 3 ⟨i3, o3, r3⟩ := by
  have hE : ∀ g f, (E3 r8 r9 r5 r7 r6 ).env.fns g = some f → CallOk Go.Proofs.Try.prog g f := fnsL_ok ⟨k8, k9, k5, k7, k6, trivial⟩
  exact fn_ok (E := E3 r8 r9 r5 r7 r6 ) rfl hE mixed (by kernel_rfl) (by kernel_rfl) (AllLoops.of_list (l := []) (by kernel_rfl) trivial) (s3 r8 r9 r5 r7 r6 )
end Go.Proofs.Ytfafepmjpphfeaa.Plain
