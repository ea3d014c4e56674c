/- Plain functions that the program's functions answer as; their contracts. Printed by a program of the proofs' writer. No condition. -/
import Derived.Test.YtfafepmjpphfeaaUf
import Derived.KernelRfl
import Derived.Test.YtfafepmjpphfeaaProg
set_option linter.unusedVariables false
set_option linter.unusedSimpArgs false
set_option maxRecDepth 100000
namespace Go.Proofs.Ytfafepmjpphfeaa.Plain
open Go Go.Tev
theorem mixed : Go.Proofs.Try.prog.follows .mixedOrders = true := by kernel_rfl
/- loop.example/g00231/laws.szIntS -/
@[reducible] def i20 : List Ty := [.v (.sl false .i), .v (.int .i64)]
@[reducible] def o20 : List Ty := [.v (.int .i64)]
noncomputable def m20   (y : PTup i20) : Option (PTup o20 × BTup i20) :=
  bif (ltI (wI (y.2.1 - (lenI y.1))) (0 : Int)) then (some (((-(1 : Int)), ()), ()))
  else some (((wI (y.2.1 - (lenI y.1))), ()), ())
noncomputable def E20   : CEnv := ⟨⟨Go.Proofs.Try.prog, fnsL []⟩, loopsL []⟩
theorem s20   (y) : tevF (E20  ) Go.Proofs.Try.f20 i20 o20 y = m20   y := by kernel_rfl
noncomputable def r20 : PTup i20 → Option (PTup o20 × BTup i20) := m20  
theorem k20 : CallOk Go.Proofs.Try.prog 20 ⟨i20, o20, r20, .nor⟩ := by
  have hE : ∀ g f, (E20  ).env.fns g = some f → CallOk Go.Proofs.Try.prog g f := fnsL_ok trivial
  exact fn_ok (E := E20  ) rfl hE mixed (by kernel_rfl) (by kernel_rfl) (AllLoops.of_list (l := []) (by kernel_rfl) trivial) (s20  )
/- loop.example/g00231/laws.szIntSS -/
@[reducible] def i63 : List Ty := [.v (.sl false .n), .v (.int .i64)]
@[reducible] def o63 : List Ty := [.v (.int .i64)]
@[reducible] def lc63_0 : List Ty := [.v (.sl false .n)]
@[reducible] def lb63_0 : List Ty := []
@[reducible] def lv63_0 : List Ty := [.v (.int .i64), .v (.int .i64)]
@[reducible] def lr63_0 : List Ty := [.v (.int .i64)]
noncomputable def w63_0 (c20 : PTup i20 → Option (PTup o20 × BTup i20))  (again : PTup lb63_0 → PTup lv63_0 → Option (Sum (PTup lv63_0) (PTup lr63_0) × BTup lb63_0)) (x : PTup lc63_0) (y : PTup lb63_0) (z : PTup lv63_0) : Option (Sum (PTup lv63_0) (PTup lr63_0) × BTup lb63_0) :=
  bif (ltI z.2.1 (lenI x.1)) then (bif (leI (0 : Int) z.2.1) then (bif (ltI z.2.1 (lenI x.1)) then ((c20 ((rdE .n x.1 z.2.1), (z.1, ()))).bind fun r0 =>
     bif (ltI r0.1.1 (0 : Int)) then (some ((Sum.inr ((-(1 : Int)), ())), ()))
     else again () (r0.1.1, ((wI (z.2.1 + (1 : Int))), ())))
    else none)
   else none)
  else some ((Sum.inl z), ())
noncomputable def e63_0 (l : PTup lc63_0 → PTup lb63_0 → PTup lv63_0 → Option (Sum (PTup lv63_0) (PTup lr63_0) × BTup lb63_0)) : LoopE := ⟨[0], lc63_0, [], lb63_0, [1, 5], lv63_0, [4], lr63_0, 0, l⟩
noncomputable def m63 (c20 : PTup i20 → Option (PTup o20 × BTup i20)) (l0 : PTup lc63_0 → PTup lb63_0 → PTup lv63_0 → Option (Sum (PTup lv63_0) (PTup lr63_0) × BTup lb63_0)) (y : PTup i63) : Option (PTup o63 × BTup i63) :=
  bif (ltI (wI (y.2.1 - (lenI y.1))) (0 : Int)) then (some (((-(1 : Int)), ()), ()))
  else (l0 (y.1, ()) () ((wI (y.2.1 - (lenI y.1))), ((0 : Int), ()))).bind fun r0 =>
  sumElim r0.1 (fun r1 => some ((r1.1, ()), ()))
  (fun r1 => some (r1, ()))
noncomputable def E63 (c20 : PTup i20 → Option (PTup o20 × BTup i20)) (l0 : PTup lc63_0 → PTup lb63_0 → PTup lv63_0 → Option (Sum (PTup lv63_0) (PTup lr63_0) × BTup lb63_0)) : CEnv := ⟨⟨Go.Proofs.Try.prog, fnsL [(20, ⟨i20, o20, c20, .nor⟩)]⟩, loopsL [(5, e63_0 l0)]⟩
theorem t63_0 (c20 : PTup i20 → Option (PTup o20 × BTup i20)) (l0 : PTup lc63_0 → PTup lb63_0 → PTup lv63_0 → Option (Sum (PTup lv63_0) (PTup lr63_0) × BTup lb63_0)) (again) (x y z) : loopRound (E63 c20 l0) (loopAt (bodyOf Go.Proofs.Try.f63) 0) (e63_0 l0) Go.Proofs.Try.f63.ntmps again x y z = w63_0 c20  again x y z := by kernel_rfl
noncomputable def n63_0 (c20 : PTup i20 → Option (PTup o20 × BTup i20))  : Nat → PTup lc63_0 → PTup lb63_0 → PTup lv63_0 → Option (Sum (PTup lv63_0) (PTup lr63_0) × BTup lb63_0)
  | 0, _, _, _ => none
  | n + 1, x, y, z => w63_0 c20  (fun y z => n63_0 c20  n x y z) x y z
theorem s63 (c20 : PTup i20 → Option (PTup o20 × BTup i20)) (l0 : PTup lc63_0 → PTup lb63_0 → PTup lv63_0 → Option (Sum (PTup lv63_0) (PTup lr63_0) × BTup lb63_0)) (y) : tevF (E63 c20 l0) Go.Proofs.Try.f63 i63 o63 y = m63 c20 l0 y := by kernel_rfl
noncomputable def L63_0 : PTup lc63_0 → PTup lb63_0 → PTup lv63_0 → Option (Sum (PTup lv63_0) (PTup lr63_0) × BTup lb63_0) := n63_0 r20  fuel
noncomputable def r63 : PTup i63 → Option (PTup o63 × BTup i63) := m63 r20 L63_0
theorem k63 : CallOk Go.Proofs.Try.prog 63 ⟨i63, o63, r63, .nor⟩ := by
  have hE : ∀ g f, (E63 r20 L63_0).env.fns g = some f → CallOk Go.Proofs.Try.prog g f := fnsL_ok ⟨k20, trivial⟩
  have h0 : LoopOk Go.Proofs.Try.prog Go.Proofs.Try.f63.ntmps (loopAt (bodyOf Go.Proofs.Try.f63) 0) (e63_0 L63_0) := lp_ok (E := E63 r20 L63_0) rfl hE mixed (AllLoops.of_list (l := []) (by kernel_rfl) trivial) (n63_0 r20 ) (fun _ _ _ => rfl) (fun n x y z => t63_0 r20 L63_0 _ x y z) rfl
  exact fn_ok (E := E63 r20 L63_0) rfl hE mixed (by kernel_rfl) (by kernel_rfl) (AllLoops.of_list (l := [(loopAt (bodyOf Go.Proofs.Try.f63) 0)]) (by kernel_rfl) (.one (by kernel_rfl) h0 trivial)) (s63 r20 L63_0)
/- loop.example/g00231/laws.szImage -/
@[reducible] def i19 : List Ty := [.a [.sl false .n], .v (.int .i64)]
@[reducible] def o19 : List Ty := [.v (.int .i64)]
noncomputable def m19 (c63 : PTup i63 → Option (PTup o63 × BTup i63))  (y : PTup i19) : Option (PTup o19 × BTup i19) :=
  (c63 (y.1.1, y.2)).bind fun r0 =>
  bif (ltI r0.1.1 (0 : Int)) then (some (((-(1 : Int)), ()), ()))
  else some (r0.1, ())
noncomputable def E19 (c63 : PTup i63 → Option (PTup o63 × BTup i63))  : CEnv := ⟨⟨Go.Proofs.Try.prog, fnsL [(63, ⟨i63, o63, c63, .nor⟩)]⟩, loopsL []⟩
theorem s19 (c63 : PTup i63 → Option (PTup o63 × BTup i63))  (y) : tevF (E19 c63 ) Go.Proofs.Try.f19 i19 o19 y = m19 c63  y := by kernel_rfl
noncomputable def r19 : PTup i19 → Option (PTup o19 × BTup i19) := m19 r63 
theorem k19 : CallOk Go.Proofs.Try.prog 19 ⟨i19, o19, r19, .nor⟩ := by
  have hE : ∀ g f, (E19 r63 ).env.fns g = some f → CallOk Go.Proofs.Try.prog g f := fnsL_ok ⟨k63, trivial⟩
  exact fn_ok (E := E19 r63 ) rfl hE mixed (by kernel_rfl) (by kernel_rfl) (AllLoops.of_list (l := []) (by kernel_rfl) trivial) (s19 r63 )
/- loop.example/g00231/laws.szMem -/
@[reducible] def i21 : List Ty := [.a [.sl false .i, .int .i64], .v (.int .i64)]
@[reducible] def o21 : List Ty := [.v (.int .i64)]
noncomputable def m21 (c20 : PTup i20 → Option (PTup o20 × BTup i20))  (y : PTup i21) : Option (PTup o21 × BTup i21) :=
  (c20 (y.1.1, y.2)).bind fun r0 =>
  bif (ltI r0.1.1 (0 : Int)) then (some (((-(1 : Int)), ()), ()))
  else some (r0.1, ())
noncomputable def E21 (c20 : PTup i20 → Option (PTup o20 × BTup i20))  : CEnv := ⟨⟨Go.Proofs.Try.prog, fnsL [(20, ⟨i20, o20, c20, .nor⟩)]⟩, loopsL []⟩
theorem s21 (c20 : PTup i20 → Option (PTup o20 × BTup i20))  (y) : tevF (E21 c20 ) Go.Proofs.Try.f21 i21 o21 y = m21 c20  y := by kernel_rfl
noncomputable def r21 : PTup i21 → Option (PTup o21 × BTup i21) := m21 r20 
theorem k21 : CallOk Go.Proofs.Try.prog 21 ⟨i21, o21, r21, .nor⟩ := by
  have hE : ∀ g f, (E21 r20 ).env.fns g = some f → CallOk Go.Proofs.Try.prog g f := fnsL_ok ⟨k20, trivial⟩
  exact fn_ok (E := E21 r20 ) rfl hE mixed (by kernel_rfl) (by kernel_rfl) (AllLoops.of_list (l := []) (by kernel_rfl) trivial) (s21 r20 )
/- loop.example/g00231/laws.szPpu -/
@[reducible] def i22 : List Ty := [.a [.int .i64, .int .i64, .int .i64, .int .i64, .int .i64, .bool, .sl false .i, .sl false .i], .v (.int .i64)]
@[reducible] def o22 : List Ty := [.v (.int .i64)]
noncomputable def m22 (c20 : PTup i20 → Option (PTup o20 × BTup i20))  (y : PTup i22) : Option (PTup o22 × BTup i22) :=
  (c20 (y.1.2.2.2.2.2.2.1, y.2)).bind fun r0 =>
  bif (ltI r0.1.1 (0 : Int)) then (some (((-(1 : Int)), ()), ()))
  else (c20 (y.1.2.2.2.2.2.2.2.1, r0.1)).bind fun r1 =>
  bif (ltI r1.1.1 (0 : Int)) then (some (((-(1 : Int)), ()), ()))
  else some (r1.1, ())
noncomputable def E22 (c20 : PTup i20 → Option (PTup o20 × BTup i20))  : CEnv := ⟨⟨Go.Proofs.Try.prog, fnsL [(20, ⟨i20, o20, c20, .nor⟩)]⟩, loopsL []⟩
theorem s22 (c20 : PTup i20 → Option (PTup o20 × BTup i20))  (y) : tevF (E22 c20 ) Go.Proofs.Try.f22 i22 o22 y = m22 c20  y := by kernel_rfl
noncomputable def r22 : PTup i22 → Option (PTup o22 × BTup i22) := m22 r20 
theorem k22 : CallOk Go.Proofs.Try.prog 22 ⟨i22, o22, r22, .nor⟩ := by
  have hE : ∀ g f, (E22 r20 ).env.fns g = some f → CallOk Go.Proofs.Try.prog g f := fnsL_ok ⟨k20, trivial⟩
  exact fn_ok (E := E22 r20 ) rfl hE mixed (by kernel_rfl) (by kernel_rfl) (AllLoops.of_list (l := []) (by kernel_rfl) trivial) (s22 r20 )
/- loop.example/g00231/laws.toIntS -/
@[reducible] def i28 : List Ty := [.v (.sl false .i)]
@[reducible] def o28 : List Ty := [.v (.sl true .i)]
@[reducible] def lc28_0 : List Ty := [.v (.sl false .i)]
@[reducible] def lb28_0 : List Ty := []
@[reducible] def lv28_0 : List Ty := [.v (.int .i64), .v (.sl true .i)]
@[reducible] def lr28_0 : List Ty := []
noncomputable def w28_0   (again : PTup lb28_0 → PTup lv28_0 → Option (Sum (PTup lv28_0) (PTup lr28_0) × BTup lb28_0)) (x : PTup lc28_0) (y : PTup lb28_0) (z : PTup lv28_0) : Option (Sum (PTup lv28_0) (PTup lr28_0) × BTup lb28_0) :=
  bif (ltI z.1 (lenI x.1)) then (bif (leI (0 : Int) z.1) then (bif (ltI z.1 (lenI x.1)) then (bif (leI (0 : Int) z.1) then (bif (ltI z.1 (lenI z.2.1)) then (again () ((wI (z.1 + (1 : Int))), ((List.set z.2.1 (Int.toNat z.1) (rdE .i x.1 z.1)), ())))
      else none)
     else none)
    else none)
   else none)
  else some ((Sum.inl z), ())
noncomputable def e28_0 (l : PTup lc28_0 → PTup lb28_0 → PTup lv28_0 → Option (Sum (PTup lv28_0) (PTup lr28_0) × BTup lb28_0)) : LoopE := ⟨[0], lc28_0, [], lb28_0, [4, 3], lv28_0, [], lr28_0, 0, l⟩
noncomputable def m28  (l0 : PTup lc28_0 → PTup lb28_0 → PTup lv28_0 → Option (Sum (PTup lv28_0) (PTup lr28_0) × BTup lb28_0)) (y : PTup i28) : Option (PTup o28 × BTup i28) :=
  bif (leN (Int.toNat (lenI y.1)) (E.most .i)) then ((l0 y () ((0 : Int), ((List.replicate (Int.toNat (lenI y.1)) (0 : Int)), ()))).bind fun r0 =>
   sumElim r0.1 (fun r1 => some (r1.2, ()))
   (fun r1 => some (([], ()), ())))
  else none
noncomputable def E28  (l0 : PTup lc28_0 → PTup lb28_0 → PTup lv28_0 → Option (Sum (PTup lv28_0) (PTup lr28_0) × BTup lb28_0)) : CEnv := ⟨⟨Go.Proofs.Try.prog, fnsL []⟩, loopsL [(3, e28_0 l0)]⟩
theorem t28_0  (l0 : PTup lc28_0 → PTup lb28_0 → PTup lv28_0 → Option (Sum (PTup lv28_0) (PTup lr28_0) × BTup lb28_0)) (again) (x y z) : loopRound (E28  l0) (loopAt (bodyOf Go.Proofs.Try.f28) 0) (e28_0 l0) Go.Proofs.Try.f28.ntmps again x y z = w28_0   again x y z := by kernel_rfl
noncomputable def n28_0   : Nat → PTup lc28_0 → PTup lb28_0 → PTup lv28_0 → Option (Sum (PTup lv28_0) (PTup lr28_0) × BTup lb28_0)
  | 0, _, _, _ => none
  | n + 1, x, y, z => w28_0   (fun y z => n28_0   n x y z) x y z
theorem s28  (l0 : PTup lc28_0 → PTup lb28_0 → PTup lv28_0 → Option (Sum (PTup lv28_0) (PTup lr28_0) × BTup lb28_0)) (y) : tevF (E28  l0) Go.Proofs.Try.f28 i28 o28 y = m28  l0 y := by kernel_rfl
noncomputable def L28_0 : PTup lc28_0 → PTup lb28_0 → PTup lv28_0 → Option (Sum (PTup lv28_0) (PTup lr28_0) × BTup lb28_0) := n28_0   fuel
noncomputable def r28 : PTup i28 → Option (PTup o28 × BTup i28) := m28  L28_0
theorem k28 : CallOk Go.Proofs.Try.prog 28 ⟨i28, o28, r28, .nor⟩ := by
  have hE : ∀ g f, (E28  L28_0).env.fns g = some f → CallOk Go.Proofs.Try.prog g f := fnsL_ok trivial
  have h0 : LoopOk Go.Proofs.Try.prog Go.Proofs.Try.f28.ntmps (loopAt (bodyOf Go.Proofs.Try.f28) 0) (e28_0 L28_0) := lp_ok (E := E28  L28_0) rfl hE mixed (AllLoops.of_list (l := []) (by kernel_rfl) trivial) (n28_0  ) (fun _ _ _ => rfl) (fun n x y z => t28_0  L28_0 _ x y z) rfl
  exact fn_ok (E := E28  L28_0) rfl hE mixed (by kernel_rfl) (by kernel_rfl) (AllLoops.of_list (l := [(loopAt (bodyOf Go.Proofs.Try.f28) 0)]) (by kernel_rfl) (.one (by kernel_rfl) h0 trivial)) (s28  L28_0)
/- loop.example/g00231/laws.toIntSS -/
@[reducible] def i66 : List Ty := [.v (.sl false .n)]
@[reducible] def o66 : List Ty := [.v (.sl true .n)]
@[reducible] def lc66_0 : List Ty := [.v (.sl false .n)]
@[reducible] def lb66_0 : List Ty := []
@[reducible] def lv66_0 : List Ty := [.v (.int .i64), .v (.sl true .n)]
@[reducible] def lr66_0 : List Ty := []
noncomputable def w66_0 (c28 : PTup i28 → Option (PTup o28 × BTup i28))  (again : PTup lb66_0 → PTup lv66_0 → Option (Sum (PTup lv66_0) (PTup lr66_0) × BTup lb66_0)) (x : PTup lc66_0) (y : PTup lb66_0) (z : PTup lv66_0) : Option (Sum (PTup lv66_0) (PTup lr66_0) × BTup lb66_0) :=
  bif (ltI z.1 (lenI x.1)) then (bif (leI (0 : Int) z.1) then (bif (ltI z.1 (lenI x.1)) then ((c28 ((rdE .n x.1 z.1), ())).bind fun r0 =>
     bif (leI (0 : Int) z.1) then (bif (ltI z.1 (lenI z.2.1)) then (again () ((wI (z.1 + (1 : Int))), ((List.set z.2.1 (Int.toNat z.1) r0.1.1), ())))
      else none)
     else none)
    else none)
   else none)
  else some ((Sum.inl z), ())
noncomputable def e66_0 (l : PTup lc66_0 → PTup lb66_0 → PTup lv66_0 → Option (Sum (PTup lv66_0) (PTup lr66_0) × BTup lb66_0)) : LoopE := ⟨[0], lc66_0, [], lb66_0, [4, 3], lv66_0, [], lr66_0, 0, l⟩
noncomputable def m66 (c28 : PTup i28 → Option (PTup o28 × BTup i28)) (l0 : PTup lc66_0 → PTup lb66_0 → PTup lv66_0 → Option (Sum (PTup lv66_0) (PTup lr66_0) × BTup lb66_0)) (y : PTup i66) : Option (PTup o66 × BTup i66) :=
  bif (leN (Int.toNat (lenI y.1)) (E.most .n)) then ((l0 y () ((0 : Int), ((List.replicate (Int.toNat (lenI y.1)) []), ()))).bind fun r0 =>
   sumElim r0.1 (fun r1 => some (r1.2, ()))
   (fun r1 => some (([], ()), ())))
  else none
noncomputable def E66 (c28 : PTup i28 → Option (PTup o28 × BTup i28)) (l0 : PTup lc66_0 → PTup lb66_0 → PTup lv66_0 → Option (Sum (PTup lv66_0) (PTup lr66_0) × BTup lb66_0)) : CEnv := ⟨⟨Go.Proofs.Try.prog, fnsL [(28, ⟨i28, o28, c28, .nor⟩)]⟩, loopsL [(3, e66_0 l0)]⟩
theorem t66_0 (c28 : PTup i28 → Option (PTup o28 × BTup i28)) (l0 : PTup lc66_0 → PTup lb66_0 → PTup lv66_0 → Option (Sum (PTup lv66_0) (PTup lr66_0) × BTup lb66_0)) (again) (x y z) : loopRound (E66 c28 l0) (loopAt (bodyOf Go.Proofs.Try.f66) 0) (e66_0 l0) Go.Proofs.Try.f66.ntmps again x y z = w66_0 c28  again x y z := by kernel_rfl
noncomputable def n66_0 (c28 : PTup i28 → Option (PTup o28 × BTup i28))  : Nat → PTup lc66_0 → PTup lb66_0 → PTup lv66_0 → Option (Sum (PTup lv66_0) (PTup lr66_0) × BTup lb66_0)
  | 0, _, _, _ => none
  | n + 1, x, y, z => w66_0 c28  (fun y z => n66_0 c28  n x y z) x y z
theorem s66 (c28 : PTup i28 → Option (PTup o28 × BTup i28)) (l0 : PTup lc66_0 → PTup lb66_0 → PTup lv66_0 → Option (Sum (PTup lv66_0) (PTup lr66_0) × BTup lb66_0)) (y) : tevF (E66 c28 l0) Go.Proofs.Try.f66 i66 o66 y = m66 c28 l0 y := by kernel_rfl
noncomputable def L66_0 : PTup lc66_0 → PTup lb66_0 → PTup lv66_0 → Option (Sum (PTup lv66_0) (PTup lr66_0) × BTup lb66_0) := n66_0 r28  fuel
noncomputable def r66 : PTup i66 → Option (PTup o66 × BTup i66) := m66 r28 L66_0
theorem k66 : CallOk Go.Proofs.Try.prog 66 ⟨i66, o66, r66, .nor⟩ := by
  have hE : ∀ g f, (E66 r28 L66_0).env.fns g = some f → CallOk Go.Proofs.Try.prog g f := fnsL_ok ⟨k28, trivial⟩
  have h0 : LoopOk Go.Proofs.Try.prog Go.Proofs.Try.f66.ntmps (loopAt (bodyOf Go.Proofs.Try.f66) 0) (e66_0 L66_0) := lp_ok (E := E66 r28 L66_0) rfl hE mixed (AllLoops.of_list (l := []) (by kernel_rfl) trivial) (n66_0 r28 ) (fun _ _ _ => rfl) (fun n x y z => t66_0 r28 L66_0 _ x y z) rfl
  exact fn_ok (E := E66 r28 L66_0) rfl hE mixed (by kernel_rfl) (by kernel_rfl) (AllLoops.of_list (l := [(loopAt (bodyOf Go.Proofs.Try.f66) 0)]) (by kernel_rfl) (.one (by kernel_rfl) h0 trivial)) (s66 r28 L66_0)
/- loop.example/g00231/laws.toImage -/
@[reducible] def i27 : List Ty := [.a [.sl false .n]]
@[reducible] def o27 : List Ty := [.a [.sl true .n]]
noncomputable def m27 (c66 : PTup i66 → Option (PTup o66 × BTup i66))  (y : PTup i27) : Option (PTup o27 × BTup i27) :=
  (c66 y.1).bind fun r0 =>
  some ((r0.1, ()), ())
noncomputable def E27 (c66 : PTup i66 → Option (PTup o66 × BTup i66))  : CEnv := ⟨⟨Go.Proofs.Try.prog, fnsL [(66, ⟨i66, o66, c66, .nor⟩)]⟩, loopsL []⟩
theorem s27 (c66 : PTup i66 → Option (PTup o66 × BTup i66))  (y) : tevF (E27 c66 ) Go.Proofs.Try.f27 i27 o27 y = m27 c66  y := by kernel_rfl
noncomputable def r27 : PTup i27 → Option (PTup o27 × BTup i27) := m27 r66 
theorem k27 : CallOk Go.Proofs.Try.prog 27 ⟨i27, o27, r27, .nor⟩ := by
  have hE : ∀ g f, (E27 r66 ).env.fns g = some f → CallOk Go.Proofs.Try.prog g f := fnsL_ok ⟨k66, trivial⟩
  exact fn_ok (E := E27 r66 ) rfl hE mixed (by kernel_rfl) (by kernel_rfl) (AllLoops.of_list (l := []) (by kernel_rfl) trivial) (s27 r66 )
/- loop.example/g00231/laws.toMem -/
@[reducible] def i29 : List Ty := [.a [.sl false .i, .int .i64]]
@[reducible] def o29 : List Ty := [.a [.sl true .i, .int .i64]]
noncomputable def m29 (c28 : PTup i28 → Option (PTup o28 × BTup i28))  (y : PTup i29) : Option (PTup o29 × BTup i29) :=
  (c28 (y.1.1, ())).bind fun r0 =>
  some (((r0.1.1, y.1.2), ()), ())
noncomputable def E29 (c28 : PTup i28 → Option (PTup o28 × BTup i28))  : CEnv := ⟨⟨Go.Proofs.Try.prog, fnsL [(28, ⟨i28, o28, c28, .nor⟩)]⟩, loopsL []⟩
theorem s29 (c28 : PTup i28 → Option (PTup o28 × BTup i28))  (y) : tevF (E29 c28 ) Go.Proofs.Try.f29 i29 o29 y = m29 c28  y := by kernel_rfl
noncomputable def r29 : PTup i29 → Option (PTup o29 × BTup i29) := m29 r28 
theorem k29 : CallOk Go.Proofs.Try.prog 29 ⟨i29, o29, r29, .nor⟩ := by
  have hE : ∀ g f, (E29 r28 ).env.fns g = some f → CallOk Go.Proofs.Try.prog g f := fnsL_ok ⟨k28, trivial⟩
  exact fn_ok (E := E29 r28 ) rfl hE mixed (by kernel_rfl) (by kernel_rfl) (AllLoops.of_list (l := []) (by kernel_rfl) trivial) (s29 r28 )
/- loop.example/g00231/laws.toCpu -/
@[reducible] def i30 : List Ty := [.a [.int .i64, .int .i64, .int .i64, .int .i64, .bool, .bool, .bool, .bool]]
@[reducible] def o30 : List Ty := [.a [.int .i64, .int .i64, .int .i64, .int .i64, .bool, .bool, .bool, .bool]]
noncomputable def m30   (y : PTup i30) : Option (PTup o30 × BTup i30) :=
  some ((y.1, ()), ())
noncomputable def E30   : CEnv := ⟨⟨Go.Proofs.Try.prog, fnsL []⟩, loopsL []⟩
theorem s30   (y) : tevF (E30  ) Go.Proofs.Try.f30 i30 o30 y = m30   y := by kernel_rfl
noncomputable def r30 : PTup i30 → Option (PTup o30 × BTup i30) := m30  
theorem k30 : CallOk Go.Proofs.Try.prog 30 ⟨i30, o30, r30, .nor⟩ := by
  have hE : ∀ g f, (E30  ).env.fns g = some f → CallOk Go.Proofs.Try.prog g f := fnsL_ok trivial
  exact fn_ok (E := E30  ) rfl hE mixed (by kernel_rfl) (by kernel_rfl) (AllLoops.of_list (l := []) (by kernel_rfl) trivial) (s30  )
/- loop.example/g00231/laws.toPpu -/
@[reducible] def i31 : List Ty := [.a [.int .i64, .int .i64, .int .i64, .int .i64, .int .i64, .bool, .sl false .i, .sl false .i]]
@[reducible] def o31 : List Ty := [.a [.int .i64, .int .i64, .int .i64, .int .i64, .int .i64, .bool, .sl true .i, .sl true .i]]
noncomputable def m31 (c28 : PTup i28 → Option (PTup o28 × BTup i28))  (y : PTup i31) : Option (PTup o31 × BTup i31) :=
  (c28 (y.1.2.2.2.2.2.2.1, ())).bind fun r0 =>
  (c28 y.1.2.2.2.2.2.2.2).bind fun r1 =>
  some (((y.1.1, (y.1.2.1, (y.1.2.2.1, (y.1.2.2.2.1, (y.1.2.2.2.2.1, (y.1.2.2.2.2.2.1, (r0.1.1, r1.1))))))), ()), ())
noncomputable def E31 (c28 : PTup i28 → Option (PTup o28 × BTup i28))  : CEnv := ⟨⟨Go.Proofs.Try.prog, fnsL [(28, ⟨i28, o28, c28, .nor⟩)]⟩, loopsL []⟩
theorem s31 (c28 : PTup i28 → Option (PTup o28 × BTup i28))  (y) : tevF (E31 c28 ) Go.Proofs.Try.f31 i31 o31 y = m31 c28  y := by kernel_rfl
noncomputable def r31 : PTup i31 → Option (PTup o31 × BTup i31) := m31 r28 
theorem k31 : CallOk Go.Proofs.Try.prog 31 ⟨i31, o31, r31, .nor⟩ := by
  have hE : ∀ g f, (E31 r28 ).env.fns g = some f → CallOk Go.Proofs.Try.prog g f := fnsL_ok ⟨k28, trivial⟩
  exact fn_ok (E := E31 r28 ) rfl hE mixed (by kernel_rfl) (by kernel_rfl) (AllLoops.of_list (l := []) (by kernel_rfl) trivial) (s31 r28 )
/- loop.example/g00231/laws.toApu -/
@[reducible] def i32 : List Ty := [.a [.int .i64, .int .i64, .int .i64, .int .i64, .int .i64, .bool, .bool]]
@[reducible] def o32 : List Ty := [.a [.int .i64, .int .i64, .int .i64, .int .i64, .int .i64, .bool, .bool]]
noncomputable def m32   (y : PTup i32) : Option (PTup o32 × BTup i32) :=
  some ((y.1, ()), ())
noncomputable def E32   : CEnv := ⟨⟨Go.Proofs.Try.prog, fnsL []⟩, loopsL []⟩
theorem s32   (y) : tevF (E32  ) Go.Proofs.Try.f32 i32 o32 y = m32   y := by kernel_rfl
noncomputable def r32 : PTup i32 → Option (PTup o32 × BTup i32) := m32  
theorem k32 : CallOk Go.Proofs.Try.prog 32 ⟨i32, o32, r32, .nor⟩ := by
  have hE : ∀ g f, (E32  ).env.fns g = some f → CallOk Go.Proofs.Try.prog g f := fnsL_ok trivial
  exact fn_ok (E := E32  ) rfl hE mixed (by kernel_rfl) (by kernel_rfl) (AllLoops.of_list (l := []) (by kernel_rfl) trivial) (s32  )
/- loop.example/g00231/laws.toPad -/
@[reducible] def i33 : List Ty := [.a [.bool, .int .i64]]
@[reducible] def o33 : List Ty := [.a [.bool, .int .i64]]
noncomputable def m33   (y : PTup i33) : Option (PTup o33 × BTup i33) :=
  some ((y.1, ()), ())
noncomputable def E33   : CEnv := ⟨⟨Go.Proofs.Try.prog, fnsL []⟩, loopsL []⟩
theorem s33   (y) : tevF (E33  ) Go.Proofs.Try.f33 i33 o33 y = m33   y := by kernel_rfl
noncomputable def r33 : PTup i33 → Option (PTup o33 × BTup i33) := m33  
theorem k33 : CallOk Go.Proofs.Try.prog 33 ⟨i33, o33, r33, .nor⟩ := by
  have hE : ∀ g f, (E33  ).env.fns g = some f → CallOk Go.Proofs.Try.prog g f := fnsL_ok trivial
  exact fn_ok (E := E33  ) rfl hE mixed (by kernel_rfl) (by kernel_rfl) (AllLoops.of_list (l := []) (by kernel_rfl) trivial) (s33  )
/- loop.example/g00231/laws.eqIntS -/
@[reducible] def i39 : List Ty := [.v (.sl false .i), .v (.sl false .i)]
@[reducible] def o39 : List Ty := [.v (.bool)]
@[reducible] def lc39_0 : List Ty := [.v (.sl false .i), .v (.sl false .i)]
@[reducible] def lb39_0 : List Ty := []
@[reducible] def lv39_0 : List Ty := [.v (.int .i64)]
@[reducible] def lr39_0 : List Ty := [.v (.bool)]
noncomputable def w39_0   (again : PTup lb39_0 → PTup lv39_0 → Option (Sum (PTup lv39_0) (PTup lr39_0) × BTup lb39_0)) (x : PTup lc39_0) (y : PTup lb39_0) (z : PTup lv39_0) : Option (Sum (PTup lv39_0) (PTup lr39_0) × BTup lb39_0) :=
  bif (ltI z.1 (lenI x.1)) then (bif (leI (0 : Int) z.1) then (bif (ltI z.1 (lenI x.1)) then (bif (leI (0 : Int) z.1) then (bif (ltI z.1 (lenI x.2.1)) then (bif (neI (rdE .i x.1 z.1) (rdE .i x.2.1 z.1)) then (some ((Sum.inr (false, ())), ()))
       else again () ((wI (z.1 + (1 : Int))), ()))
      else none)
     else none)
    else none)
   else none)
  else some ((Sum.inl z), ())
noncomputable def e39_0 (l : PTup lc39_0 → PTup lb39_0 → PTup lv39_0 → Option (Sum (PTup lv39_0) (PTup lr39_0) × BTup lb39_0)) : LoopE := ⟨[0, 1], lc39_0, [], lb39_0, [5], lv39_0, [4], lr39_0, 0, l⟩
noncomputable def m39  (l0 : PTup lc39_0 → PTup lb39_0 → PTup lv39_0 → Option (Sum (PTup lv39_0) (PTup lr39_0) × BTup lb39_0)) (y : PTup i39) : Option (PTup o39 × BTup i39) :=
  bif (neI (lenI y.1) (lenI y.2.1)) then (some ((false, ()), ()))
  else (l0 y () ((0 : Int), ())).bind fun r0 =>
  sumElim r0.1 (fun r1 => some ((true, ()), ()))
  (fun r1 => some (r1, ()))
noncomputable def E39  (l0 : PTup lc39_0 → PTup lb39_0 → PTup lv39_0 → Option (Sum (PTup lv39_0) (PTup lr39_0) × BTup lb39_0)) : CEnv := ⟨⟨Go.Proofs.Try.prog, fnsL []⟩, loopsL [(4, e39_0 l0)]⟩
theorem t39_0  (l0 : PTup lc39_0 → PTup lb39_0 → PTup lv39_0 → Option (Sum (PTup lv39_0) (PTup lr39_0) × BTup lb39_0)) (again) (x y z) : loopRound (E39  l0) (loopAt (bodyOf Go.Proofs.Try.f39) 0) (e39_0 l0) Go.Proofs.Try.f39.ntmps again x y z = w39_0   again x y z := by kernel_rfl
noncomputable def n39_0   : Nat → PTup lc39_0 → PTup lb39_0 → PTup lv39_0 → Option (Sum (PTup lv39_0) (PTup lr39_0) × BTup lb39_0)
  | 0, _, _, _ => none
  | n + 1, x, y, z => w39_0   (fun y z => n39_0   n x y z) x y z
theorem s39  (l0 : PTup lc39_0 → PTup lb39_0 → PTup lv39_0 → Option (Sum (PTup lv39_0) (PTup lr39_0) × BTup lb39_0)) (y) : tevF (E39  l0) Go.Proofs.Try.f39 i39 o39 y = m39  l0 y := by kernel_rfl
noncomputable def L39_0 : PTup lc39_0 → PTup lb39_0 → PTup lv39_0 → Option (Sum (PTup lv39_0) (PTup lr39_0) × BTup lb39_0) := n39_0   fuel
noncomputable def r39 : PTup i39 → Option (PTup o39 × BTup i39) := m39  L39_0
theorem k39 : CallOk Go.Proofs.Try.prog 39 ⟨i39, o39, r39, .nor⟩ := by
  have hE : ∀ g f, (E39  L39_0).env.fns g = some f → CallOk Go.Proofs.Try.prog g f := fnsL_ok trivial
  have h0 : LoopOk Go.Proofs.Try.prog Go.Proofs.Try.f39.ntmps (loopAt (bodyOf Go.Proofs.Try.f39) 0) (e39_0 L39_0) := lp_ok (E := E39  L39_0) rfl hE mixed (AllLoops.of_list (l := []) (by kernel_rfl) trivial) (n39_0  ) (fun _ _ _ => rfl) (fun n x y z => t39_0  L39_0 _ x y z) rfl
  exact fn_ok (E := E39  L39_0) rfl hE mixed (by kernel_rfl) (by kernel_rfl) (AllLoops.of_list (l := [(loopAt (bodyOf Go.Proofs.Try.f39) 0)]) (by kernel_rfl) (.one (by kernel_rfl) h0 trivial)) (s39  L39_0)
/- loop.example/g00231/laws.eqIntSS -/
@[reducible] def i52 : List Ty := [.v (.sl false .n), .v (.sl false .n)]
@[reducible] def o52 : List Ty := [.v (.bool)]
@[reducible] def lc52_0 : List Ty := [.v (.sl false .n), .v (.sl false .n)]
@[reducible] def lb52_0 : List Ty := []
@[reducible] def lv52_0 : List Ty := [.v (.int .i64)]
@[reducible] def lr52_0 : List Ty := [.v (.bool)]
noncomputable def w52_0 (c39 : PTup i39 → Option (PTup o39 × BTup i39))  (again : PTup lb52_0 → PTup lv52_0 → Option (Sum (PTup lv52_0) (PTup lr52_0) × BTup lb52_0)) (x : PTup lc52_0) (y : PTup lb52_0) (z : PTup lv52_0) : Option (Sum (PTup lv52_0) (PTup lr52_0) × BTup lb52_0) :=
  bif (ltI z.1 (lenI x.1)) then (bif (leI (0 : Int) z.1) then (bif (ltI z.1 (lenI x.1)) then (bif (leI (0 : Int) z.1) then (bif (ltI z.1 (lenI x.2.1)) then ((c39 ((rdE .n x.1 z.1), ((rdE .n x.2.1 z.1), ()))).bind fun r0 =>
       bif (!r0.1.1) then (some ((Sum.inr (false, ())), ()))
       else again () ((wI (z.1 + (1 : Int))), ()))
      else none)
     else none)
    else none)
   else none)
  else some ((Sum.inl z), ())
noncomputable def e52_0 (l : PTup lc52_0 → PTup lb52_0 → PTup lv52_0 → Option (Sum (PTup lv52_0) (PTup lr52_0) × BTup lb52_0)) : LoopE := ⟨[0, 1], lc52_0, [], lb52_0, [5], lv52_0, [4], lr52_0, 0, l⟩
noncomputable def m52 (c39 : PTup i39 → Option (PTup o39 × BTup i39)) (l0 : PTup lc52_0 → PTup lb52_0 → PTup lv52_0 → Option (Sum (PTup lv52_0) (PTup lr52_0) × BTup lb52_0)) (y : PTup i52) : Option (PTup o52 × BTup i52) :=
  bif (neI (lenI y.1) (lenI y.2.1)) then (some ((false, ()), ()))
  else (l0 y () ((0 : Int), ())).bind fun r0 =>
  sumElim r0.1 (fun r1 => some ((true, ()), ()))
  (fun r1 => some (r1, ()))
noncomputable def E52 (c39 : PTup i39 → Option (PTup o39 × BTup i39)) (l0 : PTup lc52_0 → PTup lb52_0 → PTup lv52_0 → Option (Sum (PTup lv52_0) (PTup lr52_0) × BTup lb52_0)) : CEnv := ⟨⟨Go.Proofs.Try.prog, fnsL [(39, ⟨i39, o39, c39, .nor⟩)]⟩, loopsL [(4, e52_0 l0)]⟩
theorem t52_0 (c39 : PTup i39 → Option (PTup o39 × BTup i39)) (l0 : PTup lc52_0 → PTup lb52_0 → PTup lv52_0 → Option (Sum (PTup lv52_0) (PTup lr52_0) × BTup lb52_0)) (again) (x y z) : loopRound (E52 c39 l0) (loopAt (bodyOf Go.Proofs.Try.f52) 0) (e52_0 l0) Go.Proofs.Try.f52.ntmps again x y z = w52_0 c39  again x y z := by kernel_rfl
noncomputable def n52_0 (c39 : PTup i39 → Option (PTup o39 × BTup i39))  : Nat → PTup lc52_0 → PTup lb52_0 → PTup lv52_0 → Option (Sum (PTup lv52_0) (PTup lr52_0) × BTup lb52_0)
  | 0, _, _, _ => none
  | n + 1, x, y, z => w52_0 c39  (fun y z => n52_0 c39  n x y z) x y z
theorem s52 (c39 : PTup i39 → Option (PTup o39 × BTup i39)) (l0 : PTup lc52_0 → PTup lb52_0 → PTup lv52_0 → Option (Sum (PTup lv52_0) (PTup lr52_0) × BTup lb52_0)) (y) : tevF (E52 c39 l0) Go.Proofs.Try.f52 i52 o52 y = m52 c39 l0 y := by kernel_rfl
noncomputable def L52_0 : PTup lc52_0 → PTup lb52_0 → PTup lv52_0 → Option (Sum (PTup lv52_0) (PTup lr52_0) × BTup lb52_0) := n52_0 r39  fuel
noncomputable def r52 : PTup i52 → Option (PTup o52 × BTup i52) := m52 r39 L52_0
theorem k52 : CallOk Go.Proofs.Try.prog 52 ⟨i52, o52, r52, .nor⟩ := by
  have hE : ∀ g f, (E52 r39 L52_0).env.fns g = some f → CallOk Go.Proofs.Try.prog g f := fnsL_ok ⟨k39, trivial⟩
  have h0 : LoopOk Go.Proofs.Try.prog Go.Proofs.Try.f52.ntmps (loopAt (bodyOf Go.Proofs.Try.f52) 0) (e52_0 L52_0) := lp_ok (E := E52 r39 L52_0) rfl hE mixed (AllLoops.of_list (l := []) (by kernel_rfl) trivial) (n52_0 r39 ) (fun _ _ _ => rfl) (fun n x y z => t52_0 r39 L52_0 _ x y z) rfl
  exact fn_ok (E := E52 r39 L52_0) rfl hE mixed (by kernel_rfl) (by kernel_rfl) (AllLoops.of_list (l := [(loopAt (bodyOf Go.Proofs.Try.f52) 0)]) (by kernel_rfl) (.one (by kernel_rfl) h0 trivial)) (s52 r39 L52_0)
/- loop.example/g00231/laws.eqImage -/
@[reducible] def i38 : List Ty := [.a [.sl false .n], .a [.sl false .n]]
@[reducible] def o38 : List Ty := [.v (.bool)]
noncomputable def m38 (c52 : PTup i52 → Option (PTup o52 × BTup i52))  (y : PTup i38) : Option (PTup o38 × BTup i38) :=
  (c52 (y.1.1, y.2.1)).bind fun r0 =>
  bif (!r0.1.1) then (some ((false, ()), ()))
  else some ((true, ()), ())
noncomputable def E38 (c52 : PTup i52 → Option (PTup o52 × BTup i52))  : CEnv := ⟨⟨Go.Proofs.Try.prog, fnsL [(52, ⟨i52, o52, c52, .nor⟩)]⟩, loopsL []⟩
theorem s38 (c52 : PTup i52 → Option (PTup o52 × BTup i52))  (y) : tevF (E38 c52 ) Go.Proofs.Try.f38 i38 o38 y = m38 c52  y := by kernel_rfl
noncomputable def r38 : PTup i38 → Option (PTup o38 × BTup i38) := m38 r52 
theorem k38 : CallOk Go.Proofs.Try.prog 38 ⟨i38, o38, r38, .nor⟩ := by
  have hE : ∀ g f, (E38 r52 ).env.fns g = some f → CallOk Go.Proofs.Try.prog g f := fnsL_ok ⟨k52, trivial⟩
  exact fn_ok (E := E38 r52 ) rfl hE mixed (by kernel_rfl) (by kernel_rfl) (AllLoops.of_list (l := []) (by kernel_rfl) trivial) (s38 r52 )
/- loop.example/g00231/laws.eqMem -/
@[reducible] def i40 : List Ty := [.a [.sl false .i, .int .i64], .a [.sl false .i, .int .i64]]
@[reducible] def o40 : List Ty := [.v (.bool)]
noncomputable def m40 (c39 : PTup i39 → Option (PTup o39 × BTup i39))  (y : PTup i40) : Option (PTup o40 × BTup i40) :=
  (c39 (y.1.1, (y.2.1.1, ()))).bind fun r0 =>
  bif (!r0.1.1) then (some ((false, ()), ()))
  else bif (neI y.1.2.1 y.2.1.2.1) then (some ((false, ()), ()))
  else some ((true, ()), ())
noncomputable def E40 (c39 : PTup i39 → Option (PTup o39 × BTup i39))  : CEnv := ⟨⟨Go.Proofs.Try.prog, fnsL [(39, ⟨i39, o39, c39, .nor⟩)]⟩, loopsL []⟩
theorem s40 (c39 : PTup i39 → Option (PTup o39 × BTup i39))  (y) : tevF (E40 c39 ) Go.Proofs.Try.f40 i40 o40 y = m40 c39  y := by kernel_rfl
noncomputable def r40 : PTup i40 → Option (PTup o40 × BTup i40) := m40 r39 
theorem k40 : CallOk Go.Proofs.Try.prog 40 ⟨i40, o40, r40, .nor⟩ := by
  have hE : ∀ g f, (E40 r39 ).env.fns g = some f → CallOk Go.Proofs.Try.prog g f := fnsL_ok ⟨k39, trivial⟩
  exact fn_ok (E := E40 r39 ) rfl hE mixed (by kernel_rfl) (by kernel_rfl) (AllLoops.of_list (l := []) (by kernel_rfl) trivial) (s40 r39 )
/- loop.example/g00231/laws.eqCpu -/
@[reducible] def i41 : List Ty := [.a [.int .i64, .int .i64, .int .i64, .int .i64, .bool, .bool, .bool, .bool], .a [.int .i64, .int .i64, .int .i64, .int .i64, .bool, .bool, .bool, .bool]]
@[reducible] def o41 : List Ty := [.v (.bool)]
noncomputable def m41   (y : PTup i41) : Option (PTup o41 × BTup i41) :=
  bif (neI y.1.1 y.2.1.1) then (some ((false, ()), ()))
  else bif (neI y.1.2.1 y.2.1.2.1) then (some ((false, ()), ()))
  else bif (neI y.1.2.2.1 y.2.1.2.2.1) then (some ((false, ()), ()))
  else bif (neI y.1.2.2.2.1 y.2.1.2.2.2.1) then (some ((false, ()), ()))
  else bif (!(y.1.2.2.2.2.1 == y.2.1.2.2.2.2.1)) then (some ((false, ()), ()))
  else bif (!(y.1.2.2.2.2.2.1 == y.2.1.2.2.2.2.2.1)) then (some ((false, ()), ()))
  else bif (!(y.1.2.2.2.2.2.2.1 == y.2.1.2.2.2.2.2.2.1)) then (some ((false, ()), ()))
  else bif (!(y.1.2.2.2.2.2.2.2.1 == y.2.1.2.2.2.2.2.2.2.1)) then (some ((false, ()), ()))
  else some ((true, ()), ())
noncomputable def E41   : CEnv := ⟨⟨Go.Proofs.Try.prog, fnsL []⟩, loopsL []⟩
theorem s41   (y) : tevF (E41  ) Go.Proofs.Try.f41 i41 o41 y = m41   y := by kernel_rfl
noncomputable def r41 : PTup i41 → Option (PTup o41 × BTup i41) := m41  
theorem k41 : CallOk Go.Proofs.Try.prog 41 ⟨i41, o41, r41, .nor⟩ := by
  have hE : ∀ g f, (E41  ).env.fns g = some f → CallOk Go.Proofs.Try.prog g f := fnsL_ok trivial
  exact fn_ok (E := E41  ) rfl hE mixed (by kernel_rfl) (by kernel_rfl) (AllLoops.of_list (l := []) (by kernel_rfl) trivial) (s41  )
/- loop.example/g00231/laws.eqPpu -/
@[reducible] def i42 : List Ty := [.a [.int .i64, .int .i64, .int .i64, .int .i64, .int .i64, .bool, .sl false .i, .sl false .i], .a [.int .i64, .int .i64, .int .i64, .int .i64, .int .i64, .bool, .sl false .i, .sl false .i]]
@[reducible] def o42 : List Ty := [.v (.bool)]
noncomputable def m42 (c39 : PTup i39 → Option (PTup o39 × BTup i39))  (y : PTup i42) : Option (PTup o42 × BTup i42) :=
  bif (neI y.1.1 y.2.1.1) then (some ((false, ()), ()))
  else bif (neI y.1.2.1 y.2.1.2.1) then (some ((false, ()), ()))
  else bif (neI y.1.2.2.1 y.2.1.2.2.1) then (some ((false, ()), ()))
  else bif (neI y.1.2.2.2.1 y.2.1.2.2.2.1) then (some ((false, ()), ()))
  else bif (neI y.1.2.2.2.2.1 y.2.1.2.2.2.2.1) then (some ((false, ()), ()))
  else bif (!(y.1.2.2.2.2.2.1 == y.2.1.2.2.2.2.2.1)) then (some ((false, ()), ()))
  else (c39 (y.1.2.2.2.2.2.2.1, (y.2.1.2.2.2.2.2.2.1, ()))).bind fun r0 =>
  bif (!r0.1.1) then (some ((false, ()), ()))
  else (c39 (y.1.2.2.2.2.2.2.2.1, y.2.1.2.2.2.2.2.2.2)).bind fun r1 =>
  bif (!r1.1.1) then (some ((false, ()), ()))
  else some ((true, ()), ())
noncomputable def E42 (c39 : PTup i39 → Option (PTup o39 × BTup i39))  : CEnv := ⟨⟨Go.Proofs.Try.prog, fnsL [(39, ⟨i39, o39, c39, .nor⟩)]⟩, loopsL []⟩
theorem s42 (c39 : PTup i39 → Option (PTup o39 × BTup i39))  (y) : tevF (E42 c39 ) Go.Proofs.Try.f42 i42 o42 y = m42 c39  y := by kernel_rfl
noncomputable def r42 : PTup i42 → Option (PTup o42 × BTup i42) := m42 r39 
theorem k42 : CallOk Go.Proofs.Try.prog 42 ⟨i42, o42, r42, .nor⟩ := by
  have hE : ∀ g f, (E42 r39 ).env.fns g = some f → CallOk Go.Proofs.Try.prog g f := fnsL_ok ⟨k39, trivial⟩
  exact fn_ok (E := E42 r39 ) rfl hE mixed (by kernel_rfl) (by kernel_rfl) (AllLoops.of_list (l := []) (by kernel_rfl) trivial) (s42 r39 )
/- loop.example/g00231/laws.eqApu -/
@[reducible] def i43 : List Ty := [.a [.int .i64, .int .i64, .int .i64, .int .i64, .int .i64, .bool, .bool], .a [.int .i64, .int .i64, .int .i64, .int .i64, .int .i64, .bool, .bool]]
@[reducible] def o43 : List Ty := [.v (.bool)]
noncomputable def m43   (y : PTup i43) : Option (PTup o43 × BTup i43) :=
  bif (neI y.1.1 y.2.1.1) then (some ((false, ()), ()))
  else bif (neI y.1.2.1 y.2.1.2.1) then (some ((false, ()), ()))
  else bif (neI y.1.2.2.1 y.2.1.2.2.1) then (some ((false, ()), ()))
  else bif (neI y.1.2.2.2.1 y.2.1.2.2.2.1) then (some ((false, ()), ()))
  else bif (neI y.1.2.2.2.2.1 y.2.1.2.2.2.2.1) then (some ((false, ()), ()))
  else bif (!(y.1.2.2.2.2.2.1 == y.2.1.2.2.2.2.2.1)) then (some ((false, ()), ()))
  else bif (!(y.1.2.2.2.2.2.2.1 == y.2.1.2.2.2.2.2.2.1)) then (some ((false, ()), ()))
  else some ((true, ()), ())
noncomputable def E43   : CEnv := ⟨⟨Go.Proofs.Try.prog, fnsL []⟩, loopsL []⟩
theorem s43   (y) : tevF (E43  ) Go.Proofs.Try.f43 i43 o43 y = m43   y := by kernel_rfl
noncomputable def r43 : PTup i43 → Option (PTup o43 × BTup i43) := m43  
theorem k43 : CallOk Go.Proofs.Try.prog 43 ⟨i43, o43, r43, .nor⟩ := by
  have hE : ∀ g f, (E43  ).env.fns g = some f → CallOk Go.Proofs.Try.prog g f := fnsL_ok trivial
  exact fn_ok (E := E43  ) rfl hE mixed (by kernel_rfl) (by kernel_rfl) (AllLoops.of_list (l := []) (by kernel_rfl) trivial) (s43  )
/- loop.example/g00231/laws.eqPad -/
@[reducible] def i44 : List Ty := [.a [.bool, .int .i64], .a [.bool, .int .i64]]
@[reducible] def o44 : List Ty := [.v (.bool)]
noncomputable def m44   (y : PTup i44) : Option (PTup o44 × BTup i44) :=
  bif (!(y.1.1 == y.2.1.1)) then (some ((false, ()), ()))
  else bif (neI y.1.2.1 y.2.1.2.1) then (some ((false, ()), ()))
  else some ((true, ()), ())
noncomputable def E44   : CEnv := ⟨⟨Go.Proofs.Try.prog, fnsL []⟩, loopsL []⟩
theorem s44   (y) : tevF (E44  ) Go.Proofs.Try.f44 i44 o44 y = m44   y := by kernel_rfl
noncomputable def r44 : PTup i44 → Option (PTup o44 × BTup i44) := m44  
theorem k44 : CallOk Go.Proofs.Try.prog 44 ⟨i44, o44, r44, .nor⟩ := by
  have hE : ∀ g f, (E44  ).env.fns g = some f → CallOk Go.Proofs.Try.prog g f := fnsL_ok trivial
  exact fn_ok (E := E44  ) rfl hE mixed (by kernel_rfl) (by kernel_rfl) (AllLoops.of_list (l := []) (by kernel_rfl) trivial) (s44  )
/- loop.example/g00231/laws.eqObs -/
@[reducible] def i14 : List Ty := [.a [.sl false .n, .sl false .i, .sl false .i], .a [.sl false .n, .sl false .i, .sl false .i]]
@[reducible] def o14 : List Ty := [.v (.bool)]
noncomputable def m14 (c39 : PTup i39 → Option (PTup o39 × BTup i39)) (c52 : PTup i52 → Option (PTup o52 × BTup i52))  (y : PTup i14) : Option (PTup o14 × BTup i14) :=
  (c52 (y.1.1, (y.2.1.1, ()))).bind fun r0 =>
  bif (!r0.1.1) then (some ((false, ()), ()))
  else (c39 (y.1.2.1, (y.2.1.2.1, ()))).bind fun r1 =>
  bif (!r1.1.1) then (some ((false, ()), ()))
  else (c39 (y.1.2.2.1, y.2.1.2.2)).bind fun r2 =>
  bif (!r2.1.1) then (some ((false, ()), ()))
  else some ((true, ()), ())
noncomputable def E14 (c39 : PTup i39 → Option (PTup o39 × BTup i39)) (c52 : PTup i52 → Option (PTup o52 × BTup i52))  : CEnv := ⟨⟨Go.Proofs.Try.prog, fnsL [(39, ⟨i39, o39, c39, .nor⟩), (52, ⟨i52, o52, c52, .nor⟩)]⟩, loopsL []⟩
theorem s14 (c39 : PTup i39 → Option (PTup o39 × BTup i39)) (c52 : PTup i52 → Option (PTup o52 × BTup i52))  (y) : tevF (E14 c39 c52 ) Go.Proofs.Try.f14 i14 o14 y = m14 c39 c52  y := by kernel_rfl
noncomputable def r14 : PTup i14 → Option (PTup o14 × BTup i14) := m14 r39 r52 
theorem k14 : CallOk Go.Proofs.Try.prog 14 ⟨i14, o14, r14, .nor⟩ := by
  have hE : ∀ g f, (E14 r39 r52 ).env.fns g = some f → CallOk Go.Proofs.Try.prog g f := fnsL_ok ⟨k39, k52, trivial⟩
  exact fn_ok (E := E14 r39 r52 ) rfl hE mixed (by kernel_rfl) (by kernel_rfl) (AllLoops.of_list (l := []) (by kernel_rfl) trivial) (s14 r39 r52 )
/- loop.example/g00231/laws.szRecS -/
@[reducible] def i75 : List Ty := [.v (.sl false .t), .v (.int .i64)]
@[reducible] def o75 : List Ty := [.v (.int .i64)]
noncomputable def m75   (y : PTup i75) : Option (PTup o75 × BTup i75) :=
  bif (ltI (wI (y.2.1 - (lenI y.1))) (0 : Int)) then (some (((-(1 : Int)), ()), ()))
  else some (((wI (y.2.1 - (lenI y.1))), ()), ())
noncomputable def E75   : CEnv := ⟨⟨Go.Proofs.Try.prog, fnsL []⟩, loopsL []⟩
theorem s75   (y) : tevF (E75  ) Go.Proofs.Try.f75 i75 o75 y = m75   y := by kernel_rfl
noncomputable def r75 : PTup i75 → Option (PTup o75 × BTup i75) := m75  
theorem k75 : CallOk Go.Proofs.Try.prog 75 ⟨i75, o75, r75, .nor⟩ := by
  have hE : ∀ g f, (E75  ).env.fns g = some f → CallOk Go.Proofs.Try.prog g f := fnsL_ok trivial
  exact fn_ok (E := E75  ) rfl hE mixed (by kernel_rfl) (by kernel_rfl) (AllLoops.of_list (l := []) (by kernel_rfl) trivial) (s75  )
/- loop.example/g00231/laws.szRing -/
@[reducible] def i70 : List Ty := [.a [.int .i64, .sl false .t], .v (.int .i64)]
@[reducible] def o70 : List Ty := [.v (.int .i64)]
noncomputable def m70 (c75 : PTup i75 → Option (PTup o75 × BTup i75))  (y : PTup i70) : Option (PTup o70 × BTup i70) :=
  (c75 (y.1.2.1, y.2)).bind fun r0 =>
  bif (ltI r0.1.1 (0 : Int)) then (some (((-(1 : Int)), ()), ()))
  else some (r0.1, ())
noncomputable def E70 (c75 : PTup i75 → Option (PTup o75 × BTup i75))  : CEnv := ⟨⟨Go.Proofs.Try.prog, fnsL [(75, ⟨i75, o75, c75, .nor⟩)]⟩, loopsL []⟩
theorem s70 (c75 : PTup i75 → Option (PTup o75 × BTup i75))  (y) : tevF (E70 c75 ) Go.Proofs.Try.f70 i70 o70 y = m70 c75  y := by kernel_rfl
noncomputable def r70 : PTup i70 → Option (PTup o70 × BTup i70) := m70 r75 
theorem k70 : CallOk Go.Proofs.Try.prog 70 ⟨i70, o70, r70, .nor⟩ := by
  have hE : ∀ g f, (E70 r75 ).env.fns g = some f → CallOk Go.Proofs.Try.prog g f := fnsL_ok ⟨k75, trivial⟩
  exact fn_ok (E := E70 r75 ) rfl hE mixed (by kernel_rfl) (by kernel_rfl) (AllLoops.of_list (l := []) (by kernel_rfl) trivial) (s70 r75 )
/- loop.example/g00231/laws.szPicture -/
@[reducible] def i45 : List Ty := [.a [.int .i64, .int .i64, .int .i64, .int .i64, .int .i64, .bool, .sl false .i, .sl false .i, .int .i64, .sl false .t, .sl false .n], .v (.int .i64)]
@[reducible] def o45 : List Ty := [.v (.int .i64)]
noncomputable def m45 (c63 : PTup i63 → Option (PTup o63 × BTup i63)) (c22 : PTup i22 → Option (PTup o22 × BTup i22)) (c70 : PTup i70 → Option (PTup o70 × BTup i70))  (y : PTup i45) : Option (PTup o45 × BTup i45) :=
  (c22 ((y.1.1, (y.1.2.1, (y.1.2.2.1, (y.1.2.2.2.1, (y.1.2.2.2.2.1, (y.1.2.2.2.2.2.1, (y.1.2.2.2.2.2.2.1, (y.1.2.2.2.2.2.2.2.1, ())))))))), y.2)).bind fun r0 =>
  bif (ltI r0.1.1 (0 : Int)) then (some (((-(1 : Int)), ()), ()))
  else (c70 ((y.1.2.2.2.2.2.2.2.2.1, (y.1.2.2.2.2.2.2.2.2.2.1, ())), r0.1)).bind fun r1 =>
  bif (ltI r1.1.1 (0 : Int)) then (some (((-(1 : Int)), ()), ()))
  else (c63 (y.1.2.2.2.2.2.2.2.2.2.2.1, r1.1)).bind fun r2 =>
  bif (ltI r2.1.1 (0 : Int)) then (some (((-(1 : Int)), ()), ()))
  else some (r2.1, ())
noncomputable def E45 (c63 : PTup i63 → Option (PTup o63 × BTup i63)) (c22 : PTup i22 → Option (PTup o22 × BTup i22)) (c70 : PTup i70 → Option (PTup o70 × BTup i70))  : CEnv := ⟨⟨Go.Proofs.Try.prog, fnsL [(63, ⟨i63, o63, c63, .nor⟩), (22, ⟨i22, o22, c22, .nor⟩), (70, ⟨i70, o70, c70, .nor⟩)]⟩, loopsL []⟩
theorem s45 (c63 : PTup i63 → Option (PTup o63 × BTup i63)) (c22 : PTup i22 → Option (PTup o22 × BTup i22)) (c70 : PTup i70 → Option (PTup o70 × BTup i70))  (y) : tevF (E45 c63 c22 c70 ) Go.Proofs.Try.f45 i45 o45 y = m45 c63 c22 c70  y := by kernel_rfl
noncomputable def r45 : PTup i45 → Option (PTup o45 × BTup i45) := m45 r63 r22 r70 
theorem k45 : CallOk Go.Proofs.Try.prog 45 ⟨i45, o45, r45, .nor⟩ := by
  have hE : ∀ g f, (E45 r63 r22 r70 ).env.fns g = some f → CallOk Go.Proofs.Try.prog g f := fnsL_ok ⟨k63, k22, k70, trivial⟩
  exact fn_ok (E := E45 r63 r22 r70 ) rfl hE mixed (by kernel_rfl) (by kernel_rfl) (AllLoops.of_list (l := []) (by kernel_rfl) trivial) (s45 r63 r22 r70 )
/- loop.example/g00231/laws.szSound -/
@[reducible] def i46 : List Ty := [.a [.int .i64, .int .i64, .int .i64, .int .i64, .int .i64, .bool, .bool, .int .i64, .sl false .t, .sl false .i], .v (.int .i64)]
@[reducible] def o46 : List Ty := [.v (.int .i64)]
noncomputable def m46 (c20 : PTup i20 → Option (PTup o20 × BTup i20)) (c70 : PTup i70 → Option (PTup o70 × BTup i70))  (y : PTup i46) : Option (PTup o46 × BTup i46) :=
  (c70 ((y.1.2.2.2.2.2.2.2.1, (y.1.2.2.2.2.2.2.2.2.1, ())), y.2)).bind fun r0 =>
  bif (ltI r0.1.1 (0 : Int)) then (some (((-(1 : Int)), ()), ()))
  else (c20 (y.1.2.2.2.2.2.2.2.2.2.1, r0.1)).bind fun r1 =>
  bif (ltI r1.1.1 (0 : Int)) then (some (((-(1 : Int)), ()), ()))
  else some (r1.1, ())
noncomputable def E46 (c20 : PTup i20 → Option (PTup o20 × BTup i20)) (c70 : PTup i70 → Option (PTup o70 × BTup i70))  : CEnv := ⟨⟨Go.Proofs.Try.prog, fnsL [(20, ⟨i20, o20, c20, .nor⟩), (70, ⟨i70, o70, c70, .nor⟩)]⟩, loopsL []⟩
theorem s46 (c20 : PTup i20 → Option (PTup o20 × BTup i20)) (c70 : PTup i70 → Option (PTup o70 × BTup i70))  (y) : tevF (E46 c20 c70 ) Go.Proofs.Try.f46 i46 o46 y = m46 c20 c70  y := by kernel_rfl
noncomputable def r46 : PTup i46 → Option (PTup o46 × BTup i46) := m46 r20 r70 
theorem k46 : CallOk Go.Proofs.Try.prog 46 ⟨i46, o46, r46, .nor⟩ := by
  have hE : ∀ g f, (E46 r20 r70 ).env.fns g = some f → CallOk Go.Proofs.Try.prog g f := fnsL_ok ⟨k20, k70, trivial⟩
  exact fn_ok (E := E46 r20 r70 ) rfl hE mixed (by kernel_rfl) (by kernel_rfl) (AllLoops.of_list (l := []) (by kernel_rfl) trivial) (s46 r20 r70 )
/- loop.example/g00231/laws.szSplit -/
@[reducible] def i10 : List Ty := [.a [.sl false .n, .sl false .i, .sl false .i, .int .i64, .int .i64, .int .i64, .int .i64, .int .i64, .bool, .bool, .bool, .bool, .bool, .int .i64, .int .i64, .bool, .int .i64, .bool, .int .i64, .int .i64, .sl false .i, .int .i64, .int .i64, .int .i64, .int .i64, .int .i64, .bool, .sl false .i, .sl false .i, .int .i64, .sl false .t, .sl false .n, .int .i64, .int .i64, .int .i64, .int .i64, .int .i64, .bool, .bool, .int .i64, .sl false .t, .sl false .i], .v (.int .i64)]
@[reducible] def o10 : List Ty := [.v (.int .i64)]
noncomputable def m10 (c19 : PTup i19 → Option (PTup o19 × BTup i19)) (c20 : PTup i20 → Option (PTup o20 × BTup i20)) (c21 : PTup i21 → Option (PTup o21 × BTup i21)) (c45 : PTup i45 → Option (PTup o45 × BTup i45)) (c46 : PTup i46 → Option (PTup o46 × BTup i46))  (y : PTup i10) : Option (PTup o10 × BTup i10) :=
  (c19 ((y.1.1, ()), y.2)).bind fun r0 =>
  bif (ltI r0.1.1 (0 : Int)) then (some (((-(1 : Int)), ()), ()))
  else (c20 (y.1.2.1, r0.1)).bind fun r1 =>
  bif (ltI r1.1.1 (0 : Int)) then (some (((-(1 : Int)), ()), ()))
  else (c21 ((y.1.2.2.1, (y.1.2.2.2.1, ())), r1.1)).bind fun r2 =>
  bif (ltI r2.1.1 (0 : Int)) then (some (((-(1 : Int)), ()), ()))
  else (c20 (y.1.2.2.2.2.2.2.2.2.2.2.2.2.2.2.2.2.2.2.2.2.1, r2.1)).bind fun r3 =>
  bif (ltI r3.1.1 (0 : Int)) then (some (((-(1 : Int)), ()), ()))
  else (c45 ((y.1.2.2.2.2.2.2.2.2.2.2.2.2.2.2.2.2.2.2.2.2.2.1, (y.1.2.2.2.2.2.2.2.2.2.2.2.2.2.2.2.2.2.2.2.2.2.2.1, (y.1.2.2.2.2.2.2.2.2.2.2.2.2.2.2.2.2.2.2.2.2.2.2.2.1, (y.1.2.2.2.2.2.2.2.2.2.2.2.2.2.2.2.2.2.2.2.2.2.2.2.2.1, (y.1.2.2.2.2.2.2.2.2.2.2.2.2.2.2.2.2.2.2.2.2.2.2.2.2.2.1, (y.1.2.2.2.2.2.2.2.2.2.2.2.2.2.2.2.2.2.2.2.2.2.2.2.2.2.2.1, (y.1.2.2.2.2.2.2.2.2.2.2.2.2.2.2.2.2.2.2.2.2.2.2.2.2.2.2.2.1, (y.1.2.2.2.2.2.2.2.2.2.2.2.2.2.2.2.2.2.2.2.2.2.2.2.2.2.2.2.2.1, (y.1.2.2.2.2.2.2.2.2.2.2.2.2.2.2.2.2.2.2.2.2.2.2.2.2.2.2.2.2.2.1, (y.1.2.2.2.2.2.2.2.2.2.2.2.2.2.2.2.2.2.2.2.2.2.2.2.2.2.2.2.2.2.2.1, (y.1.2.2.2.2.2.2.2.2.2.2.2.2.2.2.2.2.2.2.2.2.2.2.2.2.2.2.2.2.2.2.2.1, ()))))))))))), r3.1)).bind fun r4 =>
  bif (ltI r4.1.1 (0 : Int)) then (some (((-(1 : Int)), ()), ()))
  else (c46 (y.1.2.2.2.2.2.2.2.2.2.2.2.2.2.2.2.2.2.2.2.2.2.2.2.2.2.2.2.2.2.2.2.2, r4.1)).bind fun r5 =>
  bif (ltI r5.1.1 (0 : Int)) then (some (((-(1 : Int)), ()), ()))
  else some (r5.1, ())
noncomputable def E10 (c19 : PTup i19 → Option (PTup o19 × BTup i19)) (c20 : PTup i20 → Option (PTup o20 × BTup i20)) (c21 : PTup i21 → Option (PTup o21 × BTup i21)) (c45 : PTup i45 → Option (PTup o45 × BTup i45)) (c46 : PTup i46 → Option (PTup o46 × BTup i46))  : CEnv := ⟨⟨Go.Proofs.Try.prog, fnsL [(19, ⟨i19, o19, c19, .nor⟩), (20, ⟨i20, o20, c20, .nor⟩), (21, ⟨i21, o21, c21, .nor⟩), (45, ⟨i45, o45, c45, .nor⟩), (46, ⟨i46, o46, c46, .nor⟩)]⟩, loopsL []⟩
theorem s10 (c19 : PTup i19 → Option (PTup o19 × BTup i19)) (c20 : PTup i20 → Option (PTup o20 × BTup i20)) (c21 : PTup i21 → Option (PTup o21 × BTup i21)) (c45 : PTup i45 → Option (PTup o45 × BTup i45)) (c46 : PTup i46 → Option (PTup o46 × BTup i46))  (y) : tevF (E10 c19 c20 c21 c45 c46 ) Go.Proofs.Try.f10 i10 o10 y = m10 c19 c20 c21 c45 c46  y := by kernel_rfl
noncomputable def r10 : PTup i10 → Option (PTup o10 × BTup i10) := m10 r19 r20 r21 r45 r46 
theorem k10 : CallOk Go.Proofs.Try.prog 10 ⟨i10, o10, r10, .nor⟩ := by
  have hE : ∀ g f, (E10 r19 r20 r21 r45 r46 ).env.fns g = some f → CallOk Go.Proofs.Try.prog g f := fnsL_ok ⟨k19, k20, k21, k45, k46, trivial⟩
  exact fn_ok (E := E10 r19 r20 r21 r45 r46 ) rfl hE mixed (by kernel_rfl) (by kernel_rfl) (AllLoops.of_list (l := []) (by kernel_rfl) trivial) (s10 r19 r20 r21 r45 r46 )
/- loop.example/g00231/laws.toRec -/
@[reducible] def i79 : List Ty := [.a [.int .i64, .int .i64, .int .i64]]
@[reducible] def o79 : List Ty := [.a [.int .i64, .int .i64, .int .i64]]
noncomputable def m79   (y : PTup i79) : Option (PTup o79 × BTup i79) :=
  some ((y.1, ()), ())
noncomputable def E79   : CEnv := ⟨⟨Go.Proofs.Try.prog, fnsL []⟩, loopsL []⟩
theorem s79   (y) : tevF (E79  ) Go.Proofs.Try.f79 i79 o79 y = m79   y := by kernel_rfl
noncomputable def r79 : PTup i79 → Option (PTup o79 × BTup i79) := m79  
theorem k79 : CallOk Go.Proofs.Try.prog 79 ⟨i79, o79, r79, .nor⟩ := by
  have hE : ∀ g f, (E79  ).env.fns g = some f → CallOk Go.Proofs.Try.prog g f := fnsL_ok trivial
  exact fn_ok (E := E79  ) rfl hE mixed (by kernel_rfl) (by kernel_rfl) (AllLoops.of_list (l := []) (by kernel_rfl) trivial) (s79  )
/- loop.example/g00231/laws.toRecS -/
@[reducible] def i76 : List Ty := [.v (.sl false .t)]
@[reducible] def o76 : List Ty := [.v (.sl true .t)]
@[reducible] def lc76_0 : List Ty := [.v (.sl false .t)]
@[reducible] def lb76_0 : List Ty := []
@[reducible] def lv76_0 : List Ty := [.v (.int .i64), .v (.sl true .t)]
@[reducible] def lr76_0 : List Ty := []
noncomputable def w76_0 (c79 : PTup i79 → Option (PTup o79 × BTup i79))  (again : PTup lb76_0 → PTup lv76_0 → Option (Sum (PTup lv76_0) (PTup lr76_0) × BTup lb76_0)) (x : PTup lc76_0) (y : PTup lb76_0) (z : PTup lv76_0) : Option (Sum (PTup lv76_0) (PTup lr76_0) × BTup lb76_0) :=
  bif (ltI z.1 (lenI x.1)) then (bif (leI (0 : Int) z.1) then (bif (ltI z.1 (lenI x.1)) then ((c79 (((rdE .t x.1 z.1).1, ((rdE .t x.1 z.1).2.1, ((rdE .t x.1 z.1).2.2, ()))), ())).bind fun r0 =>
     bif (leI (0 : Int) z.1) then (bif (ltI z.1 (lenI z.2.1)) then (again () ((wI (z.1 + (1 : Int))), ((List.set z.2.1 (Int.toNat z.1) (r0.1.1.1, (r0.1.1.2.1, r0.1.1.2.2.1))), ())))
      else none)
     else none)
    else none)
   else none)
  else some ((Sum.inl z), ())
noncomputable def e76_0 (l : PTup lc76_0 → PTup lb76_0 → PTup lv76_0 → Option (Sum (PTup lv76_0) (PTup lr76_0) × BTup lb76_0)) : LoopE := ⟨[0], lc76_0, [], lb76_0, [4, 3], lv76_0, [], lr76_0, 0, l⟩
noncomputable def m76 (c79 : PTup i79 → Option (PTup o79 × BTup i79)) (l0 : PTup lc76_0 → PTup lb76_0 → PTup lv76_0 → Option (Sum (PTup lv76_0) (PTup lr76_0) × BTup lb76_0)) (y : PTup i76) : Option (PTup o76 × BTup i76) :=
  bif (leN (Int.toNat (lenI y.1)) (E.most .t)) then ((l0 y () ((0 : Int), ((List.replicate (Int.toNat (lenI y.1)) ((0 : Int), ((0 : Int), (0 : Int)))), ()))).bind fun r0 =>
   sumElim r0.1 (fun r1 => some (r1.2, ()))
   (fun r1 => some (([], ()), ())))
  else none
noncomputable def E76 (c79 : PTup i79 → Option (PTup o79 × BTup i79)) (l0 : PTup lc76_0 → PTup lb76_0 → PTup lv76_0 → Option (Sum (PTup lv76_0) (PTup lr76_0) × BTup lb76_0)) : CEnv := ⟨⟨Go.Proofs.Try.prog, fnsL [(79, ⟨i79, o79, c79, .nor⟩)]⟩, loopsL [(3, e76_0 l0)]⟩
theorem t76_0 (c79 : PTup i79 → Option (PTup o79 × BTup i79)) (l0 : PTup lc76_0 → PTup lb76_0 → PTup lv76_0 → Option (Sum (PTup lv76_0) (PTup lr76_0) × BTup lb76_0)) (again) (x y z) : loopRound (E76 c79 l0) (loopAt (bodyOf Go.Proofs.Try.f76) 0) (e76_0 l0) Go.Proofs.Try.f76.ntmps again x y z = w76_0 c79  again x y z := by kernel_rfl
noncomputable def n76_0 (c79 : PTup i79 → Option (PTup o79 × BTup i79))  : Nat → PTup lc76_0 → PTup lb76_0 → PTup lv76_0 → Option (Sum (PTup lv76_0) (PTup lr76_0) × BTup lb76_0)
  | 0, _, _, _ => none
  | n + 1, x, y, z => w76_0 c79  (fun y z => n76_0 c79  n x y z) x y z
theorem s76 (c79 : PTup i79 → Option (PTup o79 × BTup i79)) (l0 : PTup lc76_0 → PTup lb76_0 → PTup lv76_0 → Option (Sum (PTup lv76_0) (PTup lr76_0) × BTup lb76_0)) (y) : tevF (E76 c79 l0) Go.Proofs.Try.f76 i76 o76 y = m76 c79 l0 y := by kernel_rfl
noncomputable def L76_0 : PTup lc76_0 → PTup lb76_0 → PTup lv76_0 → Option (Sum (PTup lv76_0) (PTup lr76_0) × BTup lb76_0) := n76_0 r79  fuel
noncomputable def r76 : PTup i76 → Option (PTup o76 × BTup i76) := m76 r79 L76_0
theorem k76 : CallOk Go.Proofs.Try.prog 76 ⟨i76, o76, r76, .nor⟩ := by
  have hE : ∀ g f, (E76 r79 L76_0).env.fns g = some f → CallOk Go.Proofs.Try.prog g f := fnsL_ok ⟨k79, trivial⟩
  have h0 : LoopOk Go.Proofs.Try.prog Go.Proofs.Try.f76.ntmps (loopAt (bodyOf Go.Proofs.Try.f76) 0) (e76_0 L76_0) := lp_ok (E := E76 r79 L76_0) rfl hE mixed (AllLoops.of_list (l := []) (by kernel_rfl) trivial) (n76_0 r79 ) (fun _ _ _ => rfl) (fun n x y z => t76_0 r79 L76_0 _ x y z) rfl
  exact fn_ok (E := E76 r79 L76_0) rfl hE mixed (by kernel_rfl) (by kernel_rfl) (AllLoops.of_list (l := [(loopAt (bodyOf Go.Proofs.Try.f76) 0)]) (by kernel_rfl) (.one (by kernel_rfl) h0 trivial)) (s76 r79 L76_0)
/- loop.example/g00231/laws.toRing -/
@[reducible] def i71 : List Ty := [.a [.int .i64, .sl false .t]]
@[reducible] def o71 : List Ty := [.a [.int .i64, .sl true .t]]
noncomputable def m71 (c76 : PTup i76 → Option (PTup o76 × BTup i76))  (y : PTup i71) : Option (PTup o71 × BTup i71) :=
  (c76 y.1.2).bind fun r0 =>
  some (((y.1.1, r0.1), ()), ())
noncomputable def E71 (c76 : PTup i76 → Option (PTup o76 × BTup i76))  : CEnv := ⟨⟨Go.Proofs.Try.prog, fnsL [(76, ⟨i76, o76, c76, .nor⟩)]⟩, loopsL []⟩
theorem s71 (c76 : PTup i76 → Option (PTup o76 × BTup i76))  (y) : tevF (E71 c76 ) Go.Proofs.Try.f71 i71 o71 y = m71 c76  y := by kernel_rfl
noncomputable def r71 : PTup i71 → Option (PTup o71 × BTup i71) := m71 r76 
theorem k71 : CallOk Go.Proofs.Try.prog 71 ⟨i71, o71, r71, .nor⟩ := by
  have hE : ∀ g f, (E71 r76 ).env.fns g = some f → CallOk Go.Proofs.Try.prog g f := fnsL_ok ⟨k76, trivial⟩
  exact fn_ok (E := E71 r76 ) rfl hE mixed (by kernel_rfl) (by kernel_rfl) (AllLoops.of_list (l := []) (by kernel_rfl) trivial) (s71 r76 )
/- loop.example/g00231/laws.toPicture -/
@[reducible] def i48 : List Ty := [.a [.int .i64, .int .i64, .int .i64, .int .i64, .int .i64, .bool, .sl false .i, .sl false .i, .int .i64, .sl false .t, .sl false .n]]
@[reducible] def o48 : List Ty := [.a [.int .i64, .int .i64, .int .i64, .int .i64, .int .i64, .bool, .sl true .i, .sl true .i, .int .i64, .sl true .t, .sl true .n]]
noncomputable def m48 (c66 : PTup i66 → Option (PTup o66 × BTup i66)) (c31 : PTup i31 → Option (PTup o31 × BTup i31)) (c71 : PTup i71 → Option (PTup o71 × BTup i71))  (y : PTup i48) : Option (PTup o48 × BTup i48) :=
  (c31 ((y.1.1, (y.1.2.1, (y.1.2.2.1, (y.1.2.2.2.1, (y.1.2.2.2.2.1, (y.1.2.2.2.2.2.1, (y.1.2.2.2.2.2.2.1, (y.1.2.2.2.2.2.2.2.1, ())))))))), ())).bind fun r0 =>
  (c71 ((y.1.2.2.2.2.2.2.2.2.1, (y.1.2.2.2.2.2.2.2.2.2.1, ())), ())).bind fun r1 =>
  (c66 y.1.2.2.2.2.2.2.2.2.2.2).bind fun r2 =>
  some (((r0.1.1.1, (r0.1.1.2.1, (r0.1.1.2.2.1, (r0.1.1.2.2.2.1, (r0.1.1.2.2.2.2.1, (r0.1.1.2.2.2.2.2.1, (r0.1.1.2.2.2.2.2.2.1, (r0.1.1.2.2.2.2.2.2.2.1, (r1.1.1.1, (r1.1.1.2.1, r2.1)))))))))), ()), ())
noncomputable def E48 (c66 : PTup i66 → Option (PTup o66 × BTup i66)) (c31 : PTup i31 → Option (PTup o31 × BTup i31)) (c71 : PTup i71 → Option (PTup o71 × BTup i71))  : CEnv := ⟨⟨Go.Proofs.Try.prog, fnsL [(66, ⟨i66, o66, c66, .nor⟩), (31, ⟨i31, o31, c31, .nor⟩), (71, ⟨i71, o71, c71, .nor⟩)]⟩, loopsL []⟩
theorem s48 (c66 : PTup i66 → Option (PTup o66 × BTup i66)) (c31 : PTup i31 → Option (PTup o31 × BTup i31)) (c71 : PTup i71 → Option (PTup o71 × BTup i71))  (y) : tevF (E48 c66 c31 c71 ) Go.Proofs.Try.f48 i48 o48 y = m48 c66 c31 c71  y := by kernel_rfl
noncomputable def r48 : PTup i48 → Option (PTup o48 × BTup i48) := m48 r66 r31 r71 
theorem k48 : CallOk Go.Proofs.Try.prog 48 ⟨i48, o48, r48, .nor⟩ := by
  have hE : ∀ g f, (E48 r66 r31 r71 ).env.fns g = some f → CallOk Go.Proofs.Try.prog g f := fnsL_ok ⟨k66, k31, k71, trivial⟩
  exact fn_ok (E := E48 r66 r31 r71 ) rfl hE mixed (by kernel_rfl) (by kernel_rfl) (AllLoops.of_list (l := []) (by kernel_rfl) trivial) (s48 r66 r31 r71 )
/- loop.example/g00231/laws.toSound -/
@[reducible] def i49 : List Ty := [.a [.int .i64, .int .i64, .int .i64, .int .i64, .int .i64, .bool, .bool, .int .i64, .sl false .t, .sl false .i]]
@[reducible] def o49 : List Ty := [.a [.int .i64, .int .i64, .int .i64, .int .i64, .int .i64, .bool, .bool, .int .i64, .sl true .t, .sl true .i]]
noncomputable def m49 (c32 : PTup i32 → Option (PTup o32 × BTup i32)) (c28 : PTup i28 → Option (PTup o28 × BTup i28)) (c71 : PTup i71 → Option (PTup o71 × BTup i71))  (y : PTup i49) : Option (PTup o49 × BTup i49) :=
  (c32 ((y.1.1, (y.1.2.1, (y.1.2.2.1, (y.1.2.2.2.1, (y.1.2.2.2.2.1, (y.1.2.2.2.2.2.1, (y.1.2.2.2.2.2.2.1, ()))))))), ())).bind fun r0 =>
  (c71 ((y.1.2.2.2.2.2.2.2.1, (y.1.2.2.2.2.2.2.2.2.1, ())), ())).bind fun r1 =>
  (c28 y.1.2.2.2.2.2.2.2.2.2).bind fun r2 =>
  some (((r0.1.1.1, (r0.1.1.2.1, (r0.1.1.2.2.1, (r0.1.1.2.2.2.1, (r0.1.1.2.2.2.2.1, (r0.1.1.2.2.2.2.2.1, (r0.1.1.2.2.2.2.2.2.1, (r1.1.1.1, (r1.1.1.2.1, r2.1))))))))), ()), ())
noncomputable def E49 (c32 : PTup i32 → Option (PTup o32 × BTup i32)) (c28 : PTup i28 → Option (PTup o28 × BTup i28)) (c71 : PTup i71 → Option (PTup o71 × BTup i71))  : CEnv := ⟨⟨Go.Proofs.Try.prog, fnsL [(32, ⟨i32, o32, c32, .nor⟩), (28, ⟨i28, o28, c28, .nor⟩), (71, ⟨i71, o71, c71, .nor⟩)]⟩, loopsL []⟩
theorem s49 (c32 : PTup i32 → Option (PTup o32 × BTup i32)) (c28 : PTup i28 → Option (PTup o28 × BTup i28)) (c71 : PTup i71 → Option (PTup o71 × BTup i71))  (y) : tevF (E49 c32 c28 c71 ) Go.Proofs.Try.f49 i49 o49 y = m49 c32 c28 c71  y := by kernel_rfl
noncomputable def r49 : PTup i49 → Option (PTup o49 × BTup i49) := m49 r32 r28 r71 
theorem k49 : CallOk Go.Proofs.Try.prog 49 ⟨i49, o49, r49, .nor⟩ := by
  have hE : ∀ g f, (E49 r32 r28 r71 ).env.fns g = some f → CallOk Go.Proofs.Try.prog g f := fnsL_ok ⟨k32, k28, k71, trivial⟩
  exact fn_ok (E := E49 r32 r28 r71 ) rfl hE mixed (by kernel_rfl) (by kernel_rfl) (AllLoops.of_list (l := []) (by kernel_rfl) trivial) (s49 r32 r28 r71 )
/- loop.example/g00231/laws.toSplit -/
@[reducible] def i12 : List Ty := [.a [.sl false .n, .sl false .i, .sl false .i, .int .i64, .int .i64, .int .i64, .int .i64, .int .i64, .bool, .bool, .bool, .bool, .bool, .int .i64, .int .i64, .bool, .int .i64, .bool, .int .i64, .int .i64, .sl false .i, .int .i64, .int .i64, .int .i64, .int .i64, .int .i64, .bool, .sl false .i, .sl false .i, .int .i64, .sl false .t, .sl false .n, .int .i64, .int .i64, .int .i64, .int .i64, .int .i64, .bool, .bool, .int .i64, .sl false .t, .sl false .i]]
@[reducible] def o12 : List Ty := [.a [.sl true .n, .sl true .i, .sl true .i, .int .i64, .int .i64, .int .i64, .int .i64, .int .i64, .bool, .bool, .bool, .bool, .bool, .int .i64, .int .i64, .bool, .int .i64, .bool, .int .i64, .int .i64, .sl true .i, .int .i64, .int .i64, .int .i64, .int .i64, .int .i64, .bool, .sl true .i, .sl true .i, .int .i64, .sl true .t, .sl true .n, .int .i64, .int .i64, .int .i64, .int .i64, .int .i64, .bool, .bool, .int .i64, .sl true .t, .sl true .i]]
noncomputable def m12 (c30 : PTup i30 → Option (PTup o30 × BTup i30)) (c27 : PTup i27 → Option (PTup o27 × BTup i27)) (c28 : PTup i28 → Option (PTup o28 × BTup i28)) (c29 : PTup i29 → Option (PTup o29 × BTup i29)) (c33 : PTup i33 → Option (PTup o33 × BTup i33)) (c48 : PTup i48 → Option (PTup o48 × BTup i48)) (c49 : PTup i49 → Option (PTup o49 × BTup i49))  (y : PTup i12) : Option (PTup o12 × BTup i12) :=
  (c27 ((y.1.1, ()), ())).bind fun r0 =>
  (c28 (y.1.2.1, ())).bind fun r1 =>
  (c29 ((y.1.2.2.1, (y.1.2.2.2.1, ())), ())).bind fun r2 =>
  (c30 ((y.1.2.2.2.2.1, (y.1.2.2.2.2.2.1, (y.1.2.2.2.2.2.2.1, (y.1.2.2.2.2.2.2.2.1, (y.1.2.2.2.2.2.2.2.2.1, (y.1.2.2.2.2.2.2.2.2.2.1, (y.1.2.2.2.2.2.2.2.2.2.2.1, (y.1.2.2.2.2.2.2.2.2.2.2.2.1, ())))))))), ())).bind fun r3 =>
  (c33 ((y.1.2.2.2.2.2.2.2.2.2.2.2.2.1, (y.1.2.2.2.2.2.2.2.2.2.2.2.2.2.1, ())), ())).bind fun r4 =>
  (c28 (y.1.2.2.2.2.2.2.2.2.2.2.2.2.2.2.2.2.2.2.2.2.1, ())).bind fun r5 =>
  (c48 ((y.1.2.2.2.2.2.2.2.2.2.2.2.2.2.2.2.2.2.2.2.2.2.1, (y.1.2.2.2.2.2.2.2.2.2.2.2.2.2.2.2.2.2.2.2.2.2.2.1, (y.1.2.2.2.2.2.2.2.2.2.2.2.2.2.2.2.2.2.2.2.2.2.2.2.1, (y.1.2.2.2.2.2.2.2.2.2.2.2.2.2.2.2.2.2.2.2.2.2.2.2.2.1, (y.1.2.2.2.2.2.2.2.2.2.2.2.2.2.2.2.2.2.2.2.2.2.2.2.2.2.1, (y.1.2.2.2.2.2.2.2.2.2.2.2.2.2.2.2.2.2.2.2.2.2.2.2.2.2.2.1, (y.1.2.2.2.2.2.2.2.2.2.2.2.2.2.2.2.2.2.2.2.2.2.2.2.2.2.2.2.1, (y.1.2.2.2.2.2.2.2.2.2.2.2.2.2.2.2.2.2.2.2.2.2.2.2.2.2.2.2.2.1, (y.1.2.2.2.2.2.2.2.2.2.2.2.2.2.2.2.2.2.2.2.2.2.2.2.2.2.2.2.2.2.1, (y.1.2.2.2.2.2.2.2.2.2.2.2.2.2.2.2.2.2.2.2.2.2.2.2.2.2.2.2.2.2.2.1, (y.1.2.2.2.2.2.2.2.2.2.2.2.2.2.2.2.2.2.2.2.2.2.2.2.2.2.2.2.2.2.2.2.1, ()))))))))))), ())).bind fun r6 =>
  (c49 (y.1.2.2.2.2.2.2.2.2.2.2.2.2.2.2.2.2.2.2.2.2.2.2.2.2.2.2.2.2.2.2.2.2, ())).bind fun r7 =>
  some (((r0.1.1.1, (r1.1.1, (r2.1.1.1, (r2.1.1.2.1, (r3.1.1.1, (r3.1.1.2.1, (r3.1.1.2.2.1, (r3.1.1.2.2.2.1, (r3.1.1.2.2.2.2.1, (r3.1.1.2.2.2.2.2.1, (r3.1.1.2.2.2.2.2.2.1, (r3.1.1.2.2.2.2.2.2.2.1, (r4.1.1.1, (r4.1.1.2.1, (y.1.2.2.2.2.2.2.2.2.2.2.2.2.2.2.1, (y.1.2.2.2.2.2.2.2.2.2.2.2.2.2.2.2.1, (y.1.2.2.2.2.2.2.2.2.2.2.2.2.2.2.2.2.1, (y.1.2.2.2.2.2.2.2.2.2.2.2.2.2.2.2.2.2.1, (y.1.2.2.2.2.2.2.2.2.2.2.2.2.2.2.2.2.2.2.1, (y.1.2.2.2.2.2.2.2.2.2.2.2.2.2.2.2.2.2.2.2.1, (r5.1.1, (r6.1.1.1, (r6.1.1.2.1, (r6.1.1.2.2.1, (r6.1.1.2.2.2.1, (r6.1.1.2.2.2.2.1, (r6.1.1.2.2.2.2.2.1, (r6.1.1.2.2.2.2.2.2.1, (r6.1.1.2.2.2.2.2.2.2.1, (r6.1.1.2.2.2.2.2.2.2.2.1, (r6.1.1.2.2.2.2.2.2.2.2.2.1, (r6.1.1.2.2.2.2.2.2.2.2.2.2.1, r7.1.1)))))))))))))))))))))))))))))))), ()), ())
noncomputable def E12 (c30 : PTup i30 → Option (PTup o30 × BTup i30)) (c27 : PTup i27 → Option (PTup o27 × BTup i27)) (c28 : PTup i28 → Option (PTup o28 × BTup i28)) (c29 : PTup i29 → Option (PTup o29 × BTup i29)) (c33 : PTup i33 → Option (PTup o33 × BTup i33)) (c48 : PTup i48 → Option (PTup o48 × BTup i48)) (c49 : PTup i49 → Option (PTup o49 × BTup i49))  : CEnv := ⟨⟨Go.Proofs.Try.prog, fnsL [(30, ⟨i30, o30, c30, .nor⟩), (27, ⟨i27, o27, c27, .nor⟩), (28, ⟨i28, o28, c28, .nor⟩), (29, ⟨i29, o29, c29, .nor⟩), (33, ⟨i33, o33, c33, .nor⟩), (48, ⟨i48, o48, c48, .nor⟩), (49, ⟨i49, o49, c49, .nor⟩)]⟩, loopsL []⟩
theorem s12 (c30 : PTup i30 → Option (PTup o30 × BTup i30)) (c27 : PTup i27 → Option (PTup o27 × BTup i27)) (c28 : PTup i28 → Option (PTup o28 × BTup i28)) (c29 : PTup i29 → Option (PTup o29 × BTup i29)) (c33 : PTup i33 → Option (PTup o33 × BTup i33)) (c48 : PTup i48 → Option (PTup o48 × BTup i48)) (c49 : PTup i49 → Option (PTup o49 × BTup i49))  (y) : tevF (E12 c30 c27 c28 c29 c33 c48 c49 ) Go.Proofs.Try.f12 i12 o12 y = m12 c30 c27 c28 c29 c33 c48 c49  y := by kernel_rfl
noncomputable def r12 : PTup i12 → Option (PTup o12 × BTup i12) := m12 r30 r27 r28 r29 r33 r48 r49 
theorem k12 : CallOk Go.Proofs.Try.prog 12 ⟨i12, o12, r12, .nor⟩ := by
  have hE : ∀ g f, (E12 r30 r27 r28 r29 r33 r48 r49 ).env.fns g = some f → CallOk Go.Proofs.Try.prog g f := fnsL_ok ⟨k30, k27, k28, k29, k33, k48, k49, trivial⟩
  exact fn_ok (E := E12 r30 r27 r28 r29 r33 r48 r49 ) rfl hE mixed (by kernel_rfl) (by kernel_rfl) (AllLoops.of_list (l := []) (by kernel_rfl) trivial) (s12 r30 r27 r28 r29 r33 r48 r49 )
/- loop.example/g00231/spec.l12List -/
@[reducible] def i47 : List Ty := [.v (.sl false .n)]
@[reducible] def o47 : List Ty := [.v (.sl true .n)]
@[reducible] def lc47_0 : List Ty := [.v (.sl false .n)]
@[reducible] def lb47_0 : List Ty := []
@[reducible] def lv47_0 : List Ty := [.v (.sl true .n), .v (.int .i64)]
@[reducible] def lr47_0 : List Ty := []
noncomputable def w47_0   (again : PTup lb47_0 → PTup lv47_0 → Option (Sum (PTup lv47_0) (PTup lr47_0) × BTup lb47_0)) (x : PTup lc47_0) (y : PTup lb47_0) (z : PTup lv47_0) : Option (Sum (PTup lv47_0) (PTup lr47_0) × BTup lb47_0) :=
  bif (ltI z.2.1 (lenI x.1)) then (bif (leI (0 : Int) z.2.1) then (bif (ltI z.2.1 (lenI x.1)) then (bif (leN (0 + (List.length (rdE .n x.1 z.2.1))) (E.most .i)) then (bif (leN ((List.length z.1) + (List.length (([] ++ (rdE .n x.1 z.2.1)) :: []))) (E.most .n)) then (again () ((z.1 ++ (([] ++ (rdE .n x.1 z.2.1)) :: [])), ((wI (z.2.1 + (1 : Int))), ())))
      else none)
     else none)
    else none)
   else none)
  else some ((Sum.inl z), ())
noncomputable def e47_0 (l : PTup lc47_0 → PTup lb47_0 → PTup lv47_0 → Option (Sum (PTup lv47_0) (PTup lr47_0) × BTup lb47_0)) : LoopE := ⟨[0], lc47_0, [], lb47_0, [3, 4], lv47_0, [], lr47_0, 0, l⟩
noncomputable def m47  (l0 : PTup lc47_0 → PTup lb47_0 → PTup lv47_0 → Option (Sum (PTup lv47_0) (PTup lr47_0) × BTup lb47_0)) (y : PTup i47) : Option (PTup o47 × BTup i47) :=
  (l0 y () ([], ((0 : Int), ()))).bind fun r0 =>
  sumElim r0.1 (fun r1 => some ((r1.1, ()), ()))
  (fun r1 => some (([], ()), ()))
noncomputable def E47  (l0 : PTup lc47_0 → PTup lb47_0 → PTup lv47_0 → Option (Sum (PTup lv47_0) (PTup lr47_0) × BTup lb47_0)) : CEnv := ⟨⟨Go.Proofs.Try.prog, fnsL []⟩, loopsL [(3, e47_0 l0)]⟩
theorem t47_0  (l0 : PTup lc47_0 → PTup lb47_0 → PTup lv47_0 → Option (Sum (PTup lv47_0) (PTup lr47_0) × BTup lb47_0)) (again) (x y z) : loopRound (E47  l0) (loopAt (bodyOf Go.Proofs.Try.f47) 0) (e47_0 l0) Go.Proofs.Try.f47.ntmps again x y z = w47_0   again x y z := by kernel_rfl
noncomputable def n47_0   : Nat → PTup lc47_0 → PTup lb47_0 → PTup lv47_0 → Option (Sum (PTup lv47_0) (PTup lr47_0) × BTup lb47_0)
  | 0, _, _, _ => none
  | n + 1, x, y, z => w47_0   (fun y z => n47_0   n x y z) x y z
theorem s47  (l0 : PTup lc47_0 → PTup lb47_0 → PTup lv47_0 → Option (Sum (PTup lv47_0) (PTup lr47_0) × BTup lb47_0)) (y) : tevF (E47  l0) Go.Proofs.Try.f47 i47 o47 y = m47  l0 y := by kernel_rfl
noncomputable def L47_0 : PTup lc47_0 → PTup lb47_0 → PTup lv47_0 → Option (Sum (PTup lv47_0) (PTup lr47_0) × BTup lb47_0) := n47_0   fuel
noncomputable def r47 : PTup i47 → Option (PTup o47 × BTup i47) := m47  L47_0
theorem k47 : CallOk Go.Proofs.Try.prog 47 ⟨i47, o47, r47, .nor⟩ := by
  have hE : ∀ g f, (E47  L47_0).env.fns g = some f → CallOk Go.Proofs.Try.prog g f := fnsL_ok trivial
  have h0 : LoopOk Go.Proofs.Try.prog Go.Proofs.Try.f47.ntmps (loopAt (bodyOf Go.Proofs.Try.f47) 0) (e47_0 L47_0) := lp_ok (E := E47  L47_0) rfl hE mixed (AllLoops.of_list (l := []) (by kernel_rfl) trivial) (n47_0  ) (fun _ _ _ => rfl) (fun n x y z => t47_0  L47_0 _ x y z) rfl
  exact fn_ok (E := E47  L47_0) rfl hE mixed (by kernel_rfl) (by kernel_rfl) (AllLoops.of_list (l := [(loopAt (bodyOf Go.Proofs.Try.f47) 0)]) (by kernel_rfl) (.one (by kernel_rfl) h0 trivial)) (s47  L47_0)
/- loop.example/g00231/spec.ObsOf -/
@[reducible] def i11 : List Ty := [.a [.sl false .n, .sl false .i, .sl false .i, .int .i64, .int .i64, .int .i64, .int .i64, .int .i64, .bool, .bool, .bool, .bool, .bool, .int .i64, .int .i64, .bool, .int .i64, .bool, .int .i64, .int .i64, .sl false .i, .int .i64, .int .i64, .int .i64, .int .i64, .int .i64, .bool, .sl false .i, .sl false .i, .int .i64, .sl false .t, .sl false .n, .int .i64, .int .i64, .int .i64, .int .i64, .int .i64, .bool, .bool, .int .i64, .sl false .t, .sl false .i]]
@[reducible] def o11 : List Ty := [.a [.sl true .n, .sl true .i, .sl true .i]]
noncomputable def m11 (c47 : PTup i47 → Option (PTup o47 × BTup i47))  (y : PTup i11) : Option (PTup o11 × BTup i11) :=
  (c47 (y.1.2.2.2.2.2.2.2.2.2.2.2.2.2.2.2.2.2.2.2.2.2.2.2.2.2.2.2.2.2.2.2.1, ())).bind fun r0 =>
  bif (leN (0 + (List.length y.1.2.2.2.2.2.2.2.2.2.2.2.2.2.2.2.2.2.2.2.2.2.2.2.2.2.2.2.2.2.2.2.2.2.2.2.2.2.2.2.2.2.1)) (E.most .i)) then (bif (leN (0 + (List.length y.1.2.2.2.2.2.2.2.2.2.2.2.2.2.2.2.2.2.2.2.2.1)) (E.most .i)) then (some (((r0.1.1, (([] ++ y.1.2.2.2.2.2.2.2.2.2.2.2.2.2.2.2.2.2.2.2.2.2.2.2.2.2.2.2.2.2.2.2.2.2.2.2.2.2.2.2.2.2.1), (([] ++ y.1.2.2.2.2.2.2.2.2.2.2.2.2.2.2.2.2.2.2.2.2.1), ()))), ()), ()))
   else none)
  else none
noncomputable def E11 (c47 : PTup i47 → Option (PTup o47 × BTup i47))  : CEnv := ⟨⟨Go.Proofs.Try.prog, fnsL [(47, ⟨i47, o47, c47, .nor⟩)]⟩, loopsL []⟩
theorem s11 (c47 : PTup i47 → Option (PTup o47 × BTup i47))  (y) : tevF (E11 c47 ) Go.Proofs.Try.f11 i11 o11 y = m11 c47  y := by kernel_rfl
noncomputable def r11 : PTup i11 → Option (PTup o11 × BTup i11) := m11 r47 
theorem k11 : CallOk Go.Proofs.Try.prog 11 ⟨i11, o11, r11, .nor⟩ := by
  have hE : ∀ g f, (E11 r47 ).env.fns g = some f → CallOk Go.Proofs.Try.prog g f := fnsL_ok ⟨k47, trivial⟩
  exact fn_ok (E := E11 r47 ) rfl hE mixed (by kernel_rfl) (by kernel_rfl) (AllLoops.of_list (l := []) (by kernel_rfl) trivial) (s11 r47 )
/- loop.example/g00231/impl.copyInts -/
@[reducible] def i51 : List Ty := [.v (.sl false .i)]
@[reducible] def o51 : List Ty := [.v (.sl true .i)]
noncomputable def m51   (y : PTup i51) : Option (PTup o51 × BTup i51) :=
  bif (leN (0 + (List.length y.1)) (E.most .i)) then (some ((([] ++ y.1), ()), ()))
  else none
noncomputable def E51   : CEnv := ⟨⟨Go.Proofs.Try.prog, fnsL []⟩, loopsL []⟩
theorem s51   (y) : tevF (E51  ) Go.Proofs.Try.f51 i51 o51 y = m51   y := by kernel_rfl
noncomputable def r51 : PTup i51 → Option (PTup o51 × BTup i51) := m51  
theorem k51 : CallOk Go.Proofs.Try.prog 51 ⟨i51, o51, r51, .nor⟩ := by
  have hE : ∀ g f, (E51  ).env.fns g = some f → CallOk Go.Proofs.Try.prog g f := fnsL_ok trivial
  exact fn_ok (E := E51  ) rfl hE mixed (by kernel_rfl) (by kernel_rfl) (AllLoops.of_list (l := []) (by kernel_rfl) trivial) (s51  )
/- loop.example/g00231/impl.copyFrames -/
@[reducible] def i50 : List Ty := [.v (.sl false .n)]
@[reducible] def o50 : List Ty := [.v (.sl true .n)]
@[reducible] def lc50_0 : List Ty := [.v (.sl false .n), .v (.int .i64)]
@[reducible] def lb50_0 : List Ty := []
@[reducible] def lv50_0 : List Ty := [.v (.sl true .n), .v (.int .i64)]
@[reducible] def lr50_0 : List Ty := []
noncomputable def w50_0 (c51 : PTup i51 → Option (PTup o51 × BTup i51))  (again : PTup lb50_0 → PTup lv50_0 → Option (Sum (PTup lv50_0) (PTup lr50_0) × BTup lb50_0)) (x : PTup lc50_0) (y : PTup lb50_0) (z : PTup lv50_0) : Option (Sum (PTup lv50_0) (PTup lr50_0) × BTup lb50_0) :=
  bif (ltI z.2.1 x.2.1) then (bif (leI (0 : Int) z.2.1) then (bif (ltI z.2.1 (lenI x.1)) then ((c51 ((rdE .n x.1 z.2.1), ())).bind fun r0 =>
     bif (leN ((List.length z.1) + (List.length (r0.1.1 :: []))) (E.most .n)) then (again () ((z.1 ++ (r0.1.1 :: [])), ((wI (z.2.1 + (1 : Int))), ())))
     else none)
    else none)
   else none)
  else some ((Sum.inl z), ())
noncomputable def e50_0 (l : PTup lc50_0 → PTup lb50_0 → PTup lv50_0 → Option (Sum (PTup lv50_0) (PTup lr50_0) × BTup lb50_0)) : LoopE := ⟨[7, 8], lc50_0, [], lb50_0, [3, 9], lv50_0, [], lr50_0, 0, l⟩
noncomputable def m50 (c51 : PTup i51 → Option (PTup o51 × BTup i51)) (l0 : PTup lc50_0 → PTup lb50_0 → PTup lv50_0 → Option (Sum (PTup lv50_0) (PTup lr50_0) × BTup lb50_0)) (y : PTup i50) : Option (PTup o50 × BTup i50) :=
  (l0 (y.1, ((lenI y.1), ())) () ([], ((0 : Int), ()))).bind fun r0 =>
  sumElim r0.1 (fun r1 => some ((r1.1, ()), ()))
  (fun r1 => some (([], ()), ()))
noncomputable def E50 (c51 : PTup i51 → Option (PTup o51 × BTup i51)) (l0 : PTup lc50_0 → PTup lb50_0 → PTup lv50_0 → Option (Sum (PTup lv50_0) (PTup lr50_0) × BTup lb50_0)) : CEnv := ⟨⟨Go.Proofs.Try.prog, fnsL [(51, ⟨i51, o51, c51, .nor⟩)]⟩, loopsL [(3, e50_0 l0)]⟩
theorem t50_0 (c51 : PTup i51 → Option (PTup o51 × BTup i51)) (l0 : PTup lc50_0 → PTup lb50_0 → PTup lv50_0 → Option (Sum (PTup lv50_0) (PTup lr50_0) × BTup lb50_0)) (again) (x y z) : loopRound (E50 c51 l0) (loopAt (bodyOf Go.Proofs.Try.f50) 0) (e50_0 l0) Go.Proofs.Try.f50.ntmps again x y z = w50_0 c51  again x y z := by kernel_rfl
noncomputable def n50_0 (c51 : PTup i51 → Option (PTup o51 × BTup i51))  : Nat → PTup lc50_0 → PTup lb50_0 → PTup lv50_0 → Option (Sum (PTup lv50_0) (PTup lr50_0) × BTup lb50_0)
  | 0, _, _, _ => none
  | n + 1, x, y, z => w50_0 c51  (fun y z => n50_0 c51  n x y z) x y z
theorem s50 (c51 : PTup i51 → Option (PTup o51 × BTup i51)) (l0 : PTup lc50_0 → PTup lb50_0 → PTup lv50_0 → Option (Sum (PTup lv50_0) (PTup lr50_0) × BTup lb50_0)) (y) : tevF (E50 c51 l0) Go.Proofs.Try.f50 i50 o50 y = m50 c51 l0 y := by kernel_rfl
noncomputable def L50_0 : PTup lc50_0 → PTup lb50_0 → PTup lv50_0 → Option (Sum (PTup lv50_0) (PTup lr50_0) × BTup lb50_0) := n50_0 r51  fuel
noncomputable def r50 : PTup i50 → Option (PTup o50 × BTup i50) := m50 r51 L50_0
theorem k50 : CallOk Go.Proofs.Try.prog 50 ⟨i50, o50, r50, .nor⟩ := by
  have hE : ∀ g f, (E50 r51 L50_0).env.fns g = some f → CallOk Go.Proofs.Try.prog g f := fnsL_ok ⟨k51, trivial⟩
  have h0 : LoopOk Go.Proofs.Try.prog Go.Proofs.Try.f50.ntmps (loopAt (bodyOf Go.Proofs.Try.f50) 0) (e50_0 L50_0) := lp_ok (E := E50 r51 L50_0) rfl hE mixed (AllLoops.of_list (l := []) (by kernel_rfl) trivial) (n50_0 r51 ) (fun _ _ _ => rfl) (fun n x y z => t50_0 r51 L50_0 _ x y z) rfl
  exact fn_ok (E := E50 r51 L50_0) rfl hE mixed (by kernel_rfl) (by kernel_rfl) (AllLoops.of_list (l := [(loopAt (bodyOf Go.Proofs.Try.f50) 0)]) (by kernel_rfl) (.one (by kernel_rfl) h0 trivial)) (s50 r51 L50_0)
/- loop.example/g00231/impl.ObsOf -/
@[reducible] def i13 : List Ty := [.a [.sl false .n, .sl false .i, .sl false .i, .int .i64, .int .i64, .int .i64, .int .i64, .int .i64, .bool, .bool, .bool, .bool, .bool, .int .i64, .int .i64, .bool, .int .i64, .bool, .int .i64, .int .i64, .sl false .i, .int .i64, .int .i64, .int .i64, .int .i64, .int .i64, .bool, .sl false .i, .sl false .i, .int .i64, .sl false .t, .sl false .n, .int .i64, .int .i64, .int .i64, .int .i64, .int .i64, .bool, .bool, .int .i64, .sl false .t, .sl false .i]]
@[reducible] def o13 : List Ty := [.a [.sl true .n, .sl true .i, .sl true .i]]
noncomputable def m13 (c50 : PTup i50 → Option (PTup o50 × BTup i50)) (c51 : PTup i51 → Option (PTup o51 × BTup i51))  (y : PTup i13) : Option (PTup o13 × BTup i13) :=
  (c50 (y.1.2.2.2.2.2.2.2.2.2.2.2.2.2.2.2.2.2.2.2.2.2.2.2.2.2.2.2.2.2.2.2.1, ())).bind fun r0 =>
  (c51 y.1.2.2.2.2.2.2.2.2.2.2.2.2.2.2.2.2.2.2.2.2.2.2.2.2.2.2.2.2.2.2.2.2.2.2.2.2.2.2.2.2.2).bind fun r1 =>
  (c51 (y.1.2.2.2.2.2.2.2.2.2.2.2.2.2.2.2.2.2.2.2.2.1, ())).bind fun r2 =>
  some (((r0.1.1, (r1.1.1, r2.1)), ()), ())
noncomputable def E13 (c50 : PTup i50 → Option (PTup o50 × BTup i50)) (c51 : PTup i51 → Option (PTup o51 × BTup i51))  : CEnv := ⟨⟨Go.Proofs.Try.prog, fnsL [(50, ⟨i50, o50, c50, .nor⟩), (51, ⟨i51, o51, c51, .nor⟩)]⟩, loopsL []⟩
theorem s13 (c50 : PTup i50 → Option (PTup o50 × BTup i50)) (c51 : PTup i51 → Option (PTup o51 × BTup i51))  (y) : tevF (E13 c50 c51 ) Go.Proofs.Try.f13 i13 o13 y = m13 c50 c51  y := by kernel_rfl
noncomputable def r13 : PTup i13 → Option (PTup o13 × BTup i13) := m13 r50 r51 
theorem k13 : CallOk Go.Proofs.Try.prog 13 ⟨i13, o13, r13, .nor⟩ := by
  have hE : ∀ g f, (E13 r50 r51 ).env.fns g = some f → CallOk Go.Proofs.Try.prog g f := fnsL_ok ⟨k50, k51, trivial⟩
  exact fn_ok (E := E13 r50 r51 ) rfl hE mixed (by kernel_rfl) (by kernel_rfl) (AllLoops.of_list (l := []) (by kernel_rfl) trivial) (s13 r50 r51 )
/- loop.example/g00231/laws.eqRec -/
@[reducible] def i80 : List Ty := [.a [.int .i64, .int .i64, .int .i64], .a [.int .i64, .int .i64, .int .i64]]
@[reducible] def o80 : List Ty := [.v (.bool)]
noncomputable def m80   (y : PTup i80) : Option (PTup o80 × BTup i80) :=
  bif (neI y.1.1 y.2.1.1) then (some ((false, ()), ()))
  else bif (neI y.1.2.1 y.2.1.2.1) then (some ((false, ()), ()))
  else bif (neI y.1.2.2.1 y.2.1.2.2.1) then (some ((false, ()), ()))
  else some ((true, ()), ())
noncomputable def E80   : CEnv := ⟨⟨Go.Proofs.Try.prog, fnsL []⟩, loopsL []⟩
theorem s80   (y) : tevF (E80  ) Go.Proofs.Try.f80 i80 o80 y = m80   y := by kernel_rfl
noncomputable def r80 : PTup i80 → Option (PTup o80 × BTup i80) := m80  
theorem k80 : CallOk Go.Proofs.Try.prog 80 ⟨i80, o80, r80, .nor⟩ := by
  have hE : ∀ g f, (E80  ).env.fns g = some f → CallOk Go.Proofs.Try.prog g f := fnsL_ok trivial
  exact fn_ok (E := E80  ) rfl hE mixed (by kernel_rfl) (by kernel_rfl) (AllLoops.of_list (l := []) (by kernel_rfl) trivial) (s80  )
/- loop.example/g00231/laws.eqRecS -/
@[reducible] def i77 : List Ty := [.v (.sl false .t), .v (.sl false .t)]
@[reducible] def o77 : List Ty := [.v (.bool)]
@[reducible] def lc77_0 : List Ty := [.v (.sl false .t), .v (.sl false .t)]
@[reducible] def lb77_0 : List Ty := []
@[reducible] def lv77_0 : List Ty := [.v (.int .i64)]
@[reducible] def lr77_0 : List Ty := [.v (.bool)]
noncomputable def w77_0 (c80 : PTup i80 → Option (PTup o80 × BTup i80))  (again : PTup lb77_0 → PTup lv77_0 → Option (Sum (PTup lv77_0) (PTup lr77_0) × BTup lb77_0)) (x : PTup lc77_0) (y : PTup lb77_0) (z : PTup lv77_0) : Option (Sum (PTup lv77_0) (PTup lr77_0) × BTup lb77_0) :=
  bif (ltI z.1 (lenI x.1)) then (bif (leI (0 : Int) z.1) then (bif (ltI z.1 (lenI x.1)) then (bif (leI (0 : Int) z.1) then (bif (ltI z.1 (lenI x.2.1)) then ((c80 (((rdE .t x.1 z.1).1, ((rdE .t x.1 z.1).2.1, ((rdE .t x.1 z.1).2.2, ()))), (((rdE .t x.2.1 z.1).1, ((rdE .t x.2.1 z.1).2.1, ((rdE .t x.2.1 z.1).2.2, ()))), ()))).bind fun r0 =>
       bif (!r0.1.1) then (some ((Sum.inr (false, ())), ()))
       else again () ((wI (z.1 + (1 : Int))), ()))
      else none)
     else none)
    else none)
   else none)
  else some ((Sum.inl z), ())
noncomputable def e77_0 (l : PTup lc77_0 → PTup lb77_0 → PTup lv77_0 → Option (Sum (PTup lv77_0) (PTup lr77_0) × BTup lb77_0)) : LoopE := ⟨[0, 1], lc77_0, [], lb77_0, [5], lv77_0, [4], lr77_0, 0, l⟩
noncomputable def m77 (c80 : PTup i80 → Option (PTup o80 × BTup i80)) (l0 : PTup lc77_0 → PTup lb77_0 → PTup lv77_0 → Option (Sum (PTup lv77_0) (PTup lr77_0) × BTup lb77_0)) (y : PTup i77) : Option (PTup o77 × BTup i77) :=
  bif (neI (lenI y.1) (lenI y.2.1)) then (some ((false, ()), ()))
  else (l0 y () ((0 : Int), ())).bind fun r0 =>
  sumElim r0.1 (fun r1 => some ((true, ()), ()))
  (fun r1 => some (r1, ()))
noncomputable def E77 (c80 : PTup i80 → Option (PTup o80 × BTup i80)) (l0 : PTup lc77_0 → PTup lb77_0 → PTup lv77_0 → Option (Sum (PTup lv77_0) (PTup lr77_0) × BTup lb77_0)) : CEnv := ⟨⟨Go.Proofs.Try.prog, fnsL [(80, ⟨i80, o80, c80, .nor⟩)]⟩, loopsL [(4, e77_0 l0)]⟩
theorem t77_0 (c80 : PTup i80 → Option (PTup o80 × BTup i80)) (l0 : PTup lc77_0 → PTup lb77_0 → PTup lv77_0 → Option (Sum (PTup lv77_0) (PTup lr77_0) × BTup lb77_0)) (again) (x y z) : loopRound (E77 c80 l0) (loopAt (bodyOf Go.Proofs.Try.f77) 0) (e77_0 l0) Go.Proofs.Try.f77.ntmps again x y z = w77_0 c80  again x y z := by kernel_rfl
noncomputable def n77_0 (c80 : PTup i80 → Option (PTup o80 × BTup i80))  : Nat → PTup lc77_0 → PTup lb77_0 → PTup lv77_0 → Option (Sum (PTup lv77_0) (PTup lr77_0) × BTup lb77_0)
  | 0, _, _, _ => none
  | n + 1, x, y, z => w77_0 c80  (fun y z => n77_0 c80  n x y z) x y z
theorem s77 (c80 : PTup i80 → Option (PTup o80 × BTup i80)) (l0 : PTup lc77_0 → PTup lb77_0 → PTup lv77_0 → Option (Sum (PTup lv77_0) (PTup lr77_0) × BTup lb77_0)) (y) : tevF (E77 c80 l0) Go.Proofs.Try.f77 i77 o77 y = m77 c80 l0 y := by kernel_rfl
noncomputable def L77_0 : PTup lc77_0 → PTup lb77_0 → PTup lv77_0 → Option (Sum (PTup lv77_0) (PTup lr77_0) × BTup lb77_0) := n77_0 r80  fuel
noncomputable def r77 : PTup i77 → Option (PTup o77 × BTup i77) := m77 r80 L77_0
theorem k77 : CallOk Go.Proofs.Try.prog 77 ⟨i77, o77, r77, .nor⟩ := by
  have hE : ∀ g f, (E77 r80 L77_0).env.fns g = some f → CallOk Go.Proofs.Try.prog g f := fnsL_ok ⟨k80, trivial⟩
  have h0 : LoopOk Go.Proofs.Try.prog Go.Proofs.Try.f77.ntmps (loopAt (bodyOf Go.Proofs.Try.f77) 0) (e77_0 L77_0) := lp_ok (E := E77 r80 L77_0) rfl hE mixed (AllLoops.of_list (l := []) (by kernel_rfl) trivial) (n77_0 r80 ) (fun _ _ _ => rfl) (fun n x y z => t77_0 r80 L77_0 _ x y z) rfl
  exact fn_ok (E := E77 r80 L77_0) rfl hE mixed (by kernel_rfl) (by kernel_rfl) (AllLoops.of_list (l := [(loopAt (bodyOf Go.Proofs.Try.f77) 0)]) (by kernel_rfl) (.one (by kernel_rfl) h0 trivial)) (s77 r80 L77_0)
/- loop.example/g00231/laws.eqRing -/
@[reducible] def i72 : List Ty := [.a [.int .i64, .sl false .t], .a [.int .i64, .sl false .t]]
@[reducible] def o72 : List Ty := [.v (.bool)]
noncomputable def m72 (c77 : PTup i77 → Option (PTup o77 × BTup i77))  (y : PTup i72) : Option (PTup o72 × BTup i72) :=
  bif (neI y.1.1 y.2.1.1) then (some ((false, ()), ()))
  else (c77 (y.1.2.1, y.2.1.2)).bind fun r0 =>
  bif (!r0.1.1) then (some ((false, ()), ()))
  else some ((true, ()), ())
noncomputable def E72 (c77 : PTup i77 → Option (PTup o77 × BTup i77))  : CEnv := ⟨⟨Go.Proofs.Try.prog, fnsL [(77, ⟨i77, o77, c77, .nor⟩)]⟩, loopsL []⟩
theorem s72 (c77 : PTup i77 → Option (PTup o77 × BTup i77))  (y) : tevF (E72 c77 ) Go.Proofs.Try.f72 i72 o72 y = m72 c77  y := by kernel_rfl
noncomputable def r72 : PTup i72 → Option (PTup o72 × BTup i72) := m72 r77 
theorem k72 : CallOk Go.Proofs.Try.prog 72 ⟨i72, o72, r72, .nor⟩ := by
  have hE : ∀ g f, (E72 r77 ).env.fns g = some f → CallOk Go.Proofs.Try.prog g f := fnsL_ok ⟨k77, trivial⟩
  exact fn_ok (E := E72 r77 ) rfl hE mixed (by kernel_rfl) (by kernel_rfl) (AllLoops.of_list (l := []) (by kernel_rfl) trivial) (s72 r77 )
/- loop.example/g00231/laws.eqPicture -/
@[reducible] def i53 : List Ty := [.a [.int .i64, .int .i64, .int .i64, .int .i64, .int .i64, .bool, .sl false .i, .sl false .i, .int .i64, .sl false .t, .sl false .n], .a [.int .i64, .int .i64, .int .i64, .int .i64, .int .i64, .bool, .sl false .i, .sl false .i, .int .i64, .sl false .t, .sl false .n]]
@[reducible] def o53 : List Ty := [.v (.bool)]
noncomputable def m53 (c52 : PTup i52 → Option (PTup o52 × BTup i52)) (c42 : PTup i42 → Option (PTup o42 × BTup i42)) (c72 : PTup i72 → Option (PTup o72 × BTup i72))  (y : PTup i53) : Option (PTup o53 × BTup i53) :=
  (c42 ((y.1.1, (y.1.2.1, (y.1.2.2.1, (y.1.2.2.2.1, (y.1.2.2.2.2.1, (y.1.2.2.2.2.2.1, (y.1.2.2.2.2.2.2.1, (y.1.2.2.2.2.2.2.2.1, ())))))))), ((y.2.1.1, (y.2.1.2.1, (y.2.1.2.2.1, (y.2.1.2.2.2.1, (y.2.1.2.2.2.2.1, (y.2.1.2.2.2.2.2.1, (y.2.1.2.2.2.2.2.2.1, (y.2.1.2.2.2.2.2.2.2.1, ())))))))), ()))).bind fun r0 =>
  bif (!r0.1.1) then (some ((false, ()), ()))
  else (c72 ((y.1.2.2.2.2.2.2.2.2.1, (y.1.2.2.2.2.2.2.2.2.2.1, ())), ((y.2.1.2.2.2.2.2.2.2.2.1, (y.2.1.2.2.2.2.2.2.2.2.2.1, ())), ()))).bind fun r1 =>
  bif (!r1.1.1) then (some ((false, ()), ()))
  else (c52 (y.1.2.2.2.2.2.2.2.2.2.2.1, y.2.1.2.2.2.2.2.2.2.2.2.2)).bind fun r2 =>
  bif (!r2.1.1) then (some ((false, ()), ()))
  else some ((true, ()), ())
noncomputable def E53 (c52 : PTup i52 → Option (PTup o52 × BTup i52)) (c42 : PTup i42 → Option (PTup o42 × BTup i42)) (c72 : PTup i72 → Option (PTup o72 × BTup i72))  : CEnv := ⟨⟨Go.Proofs.Try.prog, fnsL [(52, ⟨i52, o52, c52, .nor⟩), (42, ⟨i42, o42, c42, .nor⟩), (72, ⟨i72, o72, c72, .nor⟩)]⟩, loopsL []⟩
theorem s53 (c52 : PTup i52 → Option (PTup o52 × BTup i52)) (c42 : PTup i42 → Option (PTup o42 × BTup i42)) (c72 : PTup i72 → Option (PTup o72 × BTup i72))  (y) : tevF (E53 c52 c42 c72 ) Go.Proofs.Try.f53 i53 o53 y = m53 c52 c42 c72  y := by kernel_rfl
noncomputable def r53 : PTup i53 → Option (PTup o53 × BTup i53) := m53 r52 r42 r72 
theorem k53 : CallOk Go.Proofs.Try.prog 53 ⟨i53, o53, r53, .nor⟩ := by
  have hE : ∀ g f, (E53 r52 r42 r72 ).env.fns g = some f → CallOk Go.Proofs.Try.prog g f := fnsL_ok ⟨k52, k42, k72, trivial⟩
  exact fn_ok (E := E53 r52 r42 r72 ) rfl hE mixed (by kernel_rfl) (by kernel_rfl) (AllLoops.of_list (l := []) (by kernel_rfl) trivial) (s53 r52 r42 r72 )
/- loop.example/g00231/laws.eqSound -/
@[reducible] def i54 : List Ty := [.a [.int .i64, .int .i64, .int .i64, .int .i64, .int .i64, .bool, .bool, .int .i64, .sl false .t, .sl false .i], .a [.int .i64, .int .i64, .int .i64, .int .i64, .int .i64, .bool, .bool, .int .i64, .sl false .t, .sl false .i]]
@[reducible] def o54 : List Ty := [.v (.bool)]
noncomputable def m54 (c43 : PTup i43 → Option (PTup o43 × BTup i43)) (c39 : PTup i39 → Option (PTup o39 × BTup i39)) (c72 : PTup i72 → Option (PTup o72 × BTup i72))  (y : PTup i54) : Option (PTup o54 × BTup i54) :=
  (c43 ((y.1.1, (y.1.2.1, (y.1.2.2.1, (y.1.2.2.2.1, (y.1.2.2.2.2.1, (y.1.2.2.2.2.2.1, (y.1.2.2.2.2.2.2.1, ()))))))), ((y.2.1.1, (y.2.1.2.1, (y.2.1.2.2.1, (y.2.1.2.2.2.1, (y.2.1.2.2.2.2.1, (y.2.1.2.2.2.2.2.1, (y.2.1.2.2.2.2.2.2.1, ()))))))), ()))).bind fun r0 =>
  bif (!r0.1.1) then (some ((false, ()), ()))
  else (c72 ((y.1.2.2.2.2.2.2.2.1, (y.1.2.2.2.2.2.2.2.2.1, ())), ((y.2.1.2.2.2.2.2.2.2.1, (y.2.1.2.2.2.2.2.2.2.2.1, ())), ()))).bind fun r1 =>
  bif (!r1.1.1) then (some ((false, ()), ()))
  else (c39 (y.1.2.2.2.2.2.2.2.2.2.1, y.2.1.2.2.2.2.2.2.2.2.2)).bind fun r2 =>
  bif (!r2.1.1) then (some ((false, ()), ()))
  else some ((true, ()), ())
noncomputable def E54 (c43 : PTup i43 → Option (PTup o43 × BTup i43)) (c39 : PTup i39 → Option (PTup o39 × BTup i39)) (c72 : PTup i72 → Option (PTup o72 × BTup i72))  : CEnv := ⟨⟨Go.Proofs.Try.prog, fnsL [(43, ⟨i43, o43, c43, .nor⟩), (39, ⟨i39, o39, c39, .nor⟩), (72, ⟨i72, o72, c72, .nor⟩)]⟩, loopsL []⟩
theorem s54 (c43 : PTup i43 → Option (PTup o43 × BTup i43)) (c39 : PTup i39 → Option (PTup o39 × BTup i39)) (c72 : PTup i72 → Option (PTup o72 × BTup i72))  (y) : tevF (E54 c43 c39 c72 ) Go.Proofs.Try.f54 i54 o54 y = m54 c43 c39 c72  y := by kernel_rfl
noncomputable def r54 : PTup i54 → Option (PTup o54 × BTup i54) := m54 r43 r39 r72 
theorem k54 : CallOk Go.Proofs.Try.prog 54 ⟨i54, o54, r54, .nor⟩ := by
  have hE : ∀ g f, (E54 r43 r39 r72 ).env.fns g = some f → CallOk Go.Proofs.Try.prog g f := fnsL_ok ⟨k43, k39, k72, trivial⟩
  exact fn_ok (E := E54 r43 r39 r72 ) rfl hE mixed (by kernel_rfl) (by kernel_rfl) (AllLoops.of_list (l := []) (by kernel_rfl) trivial) (s54 r43 r39 r72 )
/- loop.example/g00231/laws.eqSplit -/
@[reducible] def i15 : List Ty := [.a [.sl false .n, .sl false .i, .sl false .i, .int .i64, .int .i64, .int .i64, .int .i64, .int .i64, .bool, .bool, .bool, .bool, .bool, .int .i64, .int .i64, .bool, .int .i64, .bool, .int .i64, .int .i64, .sl false .i, .int .i64, .int .i64, .int .i64, .int .i64, .int .i64, .bool, .sl false .i, .sl false .i, .int .i64, .sl false .t, .sl false .n, .int .i64, .int .i64, .int .i64, .int .i64, .int .i64, .bool, .bool, .int .i64, .sl false .t, .sl false .i], .a [.sl false .n, .sl false .i, .sl false .i, .int .i64, .int .i64, .int .i64, .int .i64, .int .i64, .bool, .bool, .bool, .bool, .bool, .int .i64, .int .i64, .bool, .int .i64, .bool, .int .i64, .int .i64, .sl false .i, .int .i64, .int .i64, .int .i64, .int .i64, .int .i64, .bool, .sl false .i, .sl false .i, .int .i64, .sl false .t, .sl false .n, .int .i64, .int .i64, .int .i64, .int .i64, .int .i64, .bool, .bool, .int .i64, .sl false .t, .sl false .i]]
@[reducible] def o15 : List Ty := [.v (.bool)]
noncomputable def m15 (c41 : PTup i41 → Option (PTup o41 × BTup i41)) (c38 : PTup i38 → Option (PTup o38 × BTup i38)) (c39 : PTup i39 → Option (PTup o39 × BTup i39)) (c40 : PTup i40 → Option (PTup o40 × BTup i40)) (c44 : PTup i44 → Option (PTup o44 × BTup i44)) (c53 : PTup i53 → Option (PTup o53 × BTup i53)) (c54 : PTup i54 → Option (PTup o54 × BTup i54))  (y : PTup i15) : Option (PTup o15 × BTup i15) :=
  (c38 ((y.1.1, ()), ((y.2.1.1, ()), ()))).bind fun r0 =>
  bif (!r0.1.1) then (some ((false, ()), ()))
  else (c39 (y.1.2.1, (y.2.1.2.1, ()))).bind fun r1 =>
  bif (!r1.1.1) then (some ((false, ()), ()))
  else (c40 ((y.1.2.2.1, (y.1.2.2.2.1, ())), ((y.2.1.2.2.1, (y.2.1.2.2.2.1, ())), ()))).bind fun r2 =>
  bif (!r2.1.1) then (some ((false, ()), ()))
  else (c41 ((y.1.2.2.2.2.1, (y.1.2.2.2.2.2.1, (y.1.2.2.2.2.2.2.1, (y.1.2.2.2.2.2.2.2.1, (y.1.2.2.2.2.2.2.2.2.1, (y.1.2.2.2.2.2.2.2.2.2.1, (y.1.2.2.2.2.2.2.2.2.2.2.1, (y.1.2.2.2.2.2.2.2.2.2.2.2.1, ())))))))), ((y.2.1.2.2.2.2.1, (y.2.1.2.2.2.2.2.1, (y.2.1.2.2.2.2.2.2.1, (y.2.1.2.2.2.2.2.2.2.1, (y.2.1.2.2.2.2.2.2.2.2.1, (y.2.1.2.2.2.2.2.2.2.2.2.1, (y.2.1.2.2.2.2.2.2.2.2.2.2.1, (y.2.1.2.2.2.2.2.2.2.2.2.2.2.1, ())))))))), ()))).bind fun r3 =>
  bif (!r3.1.1) then (some ((false, ()), ()))
  else (c44 ((y.1.2.2.2.2.2.2.2.2.2.2.2.2.1, (y.1.2.2.2.2.2.2.2.2.2.2.2.2.2.1, ())), ((y.2.1.2.2.2.2.2.2.2.2.2.2.2.2.1, (y.2.1.2.2.2.2.2.2.2.2.2.2.2.2.2.1, ())), ()))).bind fun r4 =>
  bif (!r4.1.1) then (some ((false, ()), ()))
  else bif (neI y.1.2.2.2.2.2.2.2.2.2.2.2.2.2.2.1 y.2.1.2.2.2.2.2.2.2.2.2.2.2.2.2.2.1) then (some ((false, ()), ()))
  else bif (!(y.1.2.2.2.2.2.2.2.2.2.2.2.2.2.2.2.1 == y.2.1.2.2.2.2.2.2.2.2.2.2.2.2.2.2.2.1)) then (some ((false, ()), ()))
  else bif (neI y.1.2.2.2.2.2.2.2.2.2.2.2.2.2.2.2.2.1 y.2.1.2.2.2.2.2.2.2.2.2.2.2.2.2.2.2.2.1) then (some ((false, ()), ()))
  else bif (!(y.1.2.2.2.2.2.2.2.2.2.2.2.2.2.2.2.2.2.1 == y.2.1.2.2.2.2.2.2.2.2.2.2.2.2.2.2.2.2.2.1)) then (some ((false, ()), ()))
  else bif (neI y.1.2.2.2.2.2.2.2.2.2.2.2.2.2.2.2.2.2.2.1 y.2.1.2.2.2.2.2.2.2.2.2.2.2.2.2.2.2.2.2.2.1) then (some ((false, ()), ()))
  else bif (neI y.1.2.2.2.2.2.2.2.2.2.2.2.2.2.2.2.2.2.2.2.1 y.2.1.2.2.2.2.2.2.2.2.2.2.2.2.2.2.2.2.2.2.2.1) then (some ((false, ()), ()))
  else (c39 (y.1.2.2.2.2.2.2.2.2.2.2.2.2.2.2.2.2.2.2.2.2.1, (y.2.1.2.2.2.2.2.2.2.2.2.2.2.2.2.2.2.2.2.2.2.2.1, ()))).bind fun r5 =>
  bif (!r5.1.1) then (some ((false, ()), ()))
  else (c53 ((y.1.2.2.2.2.2.2.2.2.2.2.2.2.2.2.2.2.2.2.2.2.2.1, (y.1.2.2.2.2.2.2.2.2.2.2.2.2.2.2.2.2.2.2.2.2.2.2.1, (y.1.2.2.2.2.2.2.2.2.2.2.2.2.2.2.2.2.2.2.2.2.2.2.2.1, (y.1.2.2.2.2.2.2.2.2.2.2.2.2.2.2.2.2.2.2.2.2.2.2.2.2.1, (y.1.2.2.2.2.2.2.2.2.2.2.2.2.2.2.2.2.2.2.2.2.2.2.2.2.2.1, (y.1.2.2.2.2.2.2.2.2.2.2.2.2.2.2.2.2.2.2.2.2.2.2.2.2.2.2.1, (y.1.2.2.2.2.2.2.2.2.2.2.2.2.2.2.2.2.2.2.2.2.2.2.2.2.2.2.2.1, (y.1.2.2.2.2.2.2.2.2.2.2.2.2.2.2.2.2.2.2.2.2.2.2.2.2.2.2.2.2.1, (y.1.2.2.2.2.2.2.2.2.2.2.2.2.2.2.2.2.2.2.2.2.2.2.2.2.2.2.2.2.2.1, (y.1.2.2.2.2.2.2.2.2.2.2.2.2.2.2.2.2.2.2.2.2.2.2.2.2.2.2.2.2.2.2.1, (y.1.2.2.2.2.2.2.2.2.2.2.2.2.2.2.2.2.2.2.2.2.2.2.2.2.2.2.2.2.2.2.2.1, ()))))))))))), ((y.2.1.2.2.2.2.2.2.2.2.2.2.2.2.2.2.2.2.2.2.2.2.2.1, (y.2.1.2.2.2.2.2.2.2.2.2.2.2.2.2.2.2.2.2.2.2.2.2.2.1, (y.2.1.2.2.2.2.2.2.2.2.2.2.2.2.2.2.2.2.2.2.2.2.2.2.2.1, (y.2.1.2.2.2.2.2.2.2.2.2.2.2.2.2.2.2.2.2.2.2.2.2.2.2.2.1, (y.2.1.2.2.2.2.2.2.2.2.2.2.2.2.2.2.2.2.2.2.2.2.2.2.2.2.2.1, (y.2.1.2.2.2.2.2.2.2.2.2.2.2.2.2.2.2.2.2.2.2.2.2.2.2.2.2.2.1, (y.2.1.2.2.2.2.2.2.2.2.2.2.2.2.2.2.2.2.2.2.2.2.2.2.2.2.2.2.2.1, (y.2.1.2.2.2.2.2.2.2.2.2.2.2.2.2.2.2.2.2.2.2.2.2.2.2.2.2.2.2.2.1, (y.2.1.2.2.2.2.2.2.2.2.2.2.2.2.2.2.2.2.2.2.2.2.2.2.2.2.2.2.2.2.2.1, (y.2.1.2.2.2.2.2.2.2.2.2.2.2.2.2.2.2.2.2.2.2.2.2.2.2.2.2.2.2.2.2.2.1, (y.2.1.2.2.2.2.2.2.2.2.2.2.2.2.2.2.2.2.2.2.2.2.2.2.2.2.2.2.2.2.2.2.2.1, ()))))))))))), ()))).bind fun r6 =>
  bif (!r6.1.1) then (some ((false, ()), ()))
  else (c54 (y.1.2.2.2.2.2.2.2.2.2.2.2.2.2.2.2.2.2.2.2.2.2.2.2.2.2.2.2.2.2.2.2.2, (y.2.1.2.2.2.2.2.2.2.2.2.2.2.2.2.2.2.2.2.2.2.2.2.2.2.2.2.2.2.2.2.2.2.2, ()))).bind fun r7 =>
  bif (!r7.1.1) then (some ((false, ()), ()))
  else some ((true, ()), ())
noncomputable def E15 (c41 : PTup i41 → Option (PTup o41 × BTup i41)) (c38 : PTup i38 → Option (PTup o38 × BTup i38)) (c39 : PTup i39 → Option (PTup o39 × BTup i39)) (c40 : PTup i40 → Option (PTup o40 × BTup i40)) (c44 : PTup i44 → Option (PTup o44 × BTup i44)) (c53 : PTup i53 → Option (PTup o53 × BTup i53)) (c54 : PTup i54 → Option (PTup o54 × BTup i54))  : CEnv := ⟨⟨Go.Proofs.Try.prog, fnsL [(41, ⟨i41, o41, c41, .nor⟩), (38, ⟨i38, o38, c38, .nor⟩), (39, ⟨i39, o39, c39, .nor⟩), (40, ⟨i40, o40, c40, .nor⟩), (44, ⟨i44, o44, c44, .nor⟩), (53, ⟨i53, o53, c53, .nor⟩), (54, ⟨i54, o54, c54, .nor⟩)]⟩, loopsL []⟩
theorem s15 (c41 : PTup i41 → Option (PTup o41 × BTup i41)) (c38 : PTup i38 → Option (PTup o38 × BTup i38)) (c39 : PTup i39 → Option (PTup o39 × BTup i39)) (c40 : PTup i40 → Option (PTup o40 × BTup i40)) (c44 : PTup i44 → Option (PTup o44 × BTup i44)) (c53 : PTup i53 → Option (PTup o53 × BTup i53)) (c54 : PTup i54 → Option (PTup o54 × BTup i54))  (y) : tevF (E15 c41 c38 c39 c40 c44 c53 c54 ) Go.Proofs.Try.f15 i15 o15 y = m15 c41 c38 c39 c40 c44 c53 c54  y := by kernel_rfl
noncomputable def r15 : PTup i15 → Option (PTup o15 × BTup i15) := m15 r41 r38 r39 r40 r44 r53 r54 
theorem k15 : CallOk Go.Proofs.Try.prog 15 ⟨i15, o15, r15, .nor⟩ := by
  have hE : ∀ g f, (E15 r41 r38 r39 r40 r44 r53 r54 ).env.fns g = some f → CallOk Go.Proofs.Try.prog g f := fnsL_ok ⟨k41, k38, k39, k40, k44, k53, k54, trivial⟩
  exact fn_ok (E := E15 r41 r38 r39 r40 r44 r53 r54 ) rfl hE mixed (by kernel_rfl) (by kernel_rfl) (AllLoops.of_list (l := []) (by kernel_rfl) trivial) (s15 r41 r38 r39 r40 r44 r53 r54 )
/- loop.example/g00231/laws.markIntS -/
@[reducible] def i56 : List Ty := [.v (.sl true .i), .v (.int .i64)]
@[reducible] def o56 : List Ty := [.v (.int .i64), .v (.sl true .i)]
@[reducible] def lc56_0 : List Ty := []
@[reducible] def lb56_0 : List Ty := []
@[reducible] def lv56_0 : List Ty := [.v (.int .i64), .v (.int .i64), .v (.sl true .i)]
@[reducible] def lr56_0 : List Ty := []
noncomputable def w56_0   (again : PTup lb56_0 → PTup lv56_0 → Option (Sum (PTup lv56_0) (PTup lr56_0) × BTup lb56_0)) (x : PTup lc56_0) (y : PTup lb56_0) (z : PTup lv56_0) : Option (Sum (PTup lv56_0) (PTup lr56_0) × BTup lb56_0) :=
  bif (ltI z.2.1 (lenI z.2.2.1)) then (bif (leI (0 : Int) z.2.1) then (bif (ltI z.2.1 (lenI z.2.2.1)) then (again () ((wI (z.1 + (1 : Int))), ((wI (z.2.1 + (1 : Int))), ((List.set z.2.2.1 (Int.toNat z.2.1) z.1), ()))))
    else none)
   else none)
  else some ((Sum.inl z), ())
noncomputable def e56_0 (l : PTup lc56_0 → PTup lb56_0 → PTup lv56_0 → Option (Sum (PTup lv56_0) (PTup lr56_0) × BTup lb56_0)) : LoopE := ⟨[], lc56_0, [], lb56_0, [1, 5, 0], lv56_0, [], lr56_0, 0, l⟩
noncomputable def m56  (l0 : PTup lc56_0 → PTup lb56_0 → PTup lv56_0 → Option (Sum (PTup lv56_0) (PTup lr56_0) × BTup lb56_0)) (y : PTup i56) : Option (PTup o56 × BTup i56) :=
  (l0 () () (y.2.1, ((0 : Int), (y.1, ())))).bind fun r0 =>
  sumElim r0.1 (fun r1 => some ((r1.1, r1.2.2), ()))
  (fun r1 => none)
noncomputable def E56  (l0 : PTup lc56_0 → PTup lb56_0 → PTup lv56_0 → Option (Sum (PTup lv56_0) (PTup lr56_0) × BTup lb56_0)) : CEnv := ⟨⟨Go.Proofs.Try.prog, fnsL []⟩, loopsL [(2, e56_0 l0)]⟩
theorem t56_0  (l0 : PTup lc56_0 → PTup lb56_0 → PTup lv56_0 → Option (Sum (PTup lv56_0) (PTup lr56_0) × BTup lb56_0)) (again) (x y z) : loopRound (E56  l0) (loopAt (bodyOf Go.Proofs.Try.f56) 0) (e56_0 l0) Go.Proofs.Try.f56.ntmps again x y z = w56_0   again x y z := by kernel_rfl
noncomputable def n56_0   : Nat → PTup lc56_0 → PTup lb56_0 → PTup lv56_0 → Option (Sum (PTup lv56_0) (PTup lr56_0) × BTup lb56_0)
  | 0, _, _, _ => none
  | n + 1, x, y, z => w56_0   (fun y z => n56_0   n x y z) x y z
theorem s56  (l0 : PTup lc56_0 → PTup lb56_0 → PTup lv56_0 → Option (Sum (PTup lv56_0) (PTup lr56_0) × BTup lb56_0)) (y) : tevM (E56  l0) Go.Proofs.Try.f56 i56 o56 y = m56  l0 y := by kernel_rfl
noncomputable def L56_0 : PTup lc56_0 → PTup lb56_0 → PTup lv56_0 → Option (Sum (PTup lv56_0) (PTup lr56_0) × BTup lb56_0) := n56_0   fuel
noncomputable def r56 : PTup i56 → Option (PTup o56 × BTup i56) := m56  L56_0
theorem k56 : CallOk Go.Proofs.Try.prog 56 ⟨i56, o56, r56, .inp⟩ := by
  have hE : ∀ g f, (E56  L56_0).env.fns g = some f → CallOk Go.Proofs.Try.prog g f := fnsL_ok trivial
  have h0 : LoopOk Go.Proofs.Try.prog Go.Proofs.Try.f56.ntmps (loopAt (bodyOf Go.Proofs.Try.f56) 0) (e56_0 L56_0) := lp_ok (E := E56  L56_0) rfl hE mixed (AllLoops.of_list (l := []) (by kernel_rfl) trivial) (n56_0  ) (fun _ _ _ => rfl) (fun n x y z => t56_0  L56_0 _ x y z) rfl
  exact fnM_ok (E := E56  L56_0) rfl hE mixed (by kernel_rfl) (by kernel_rfl) (AllLoops.of_list (l := [(loopAt (bodyOf Go.Proofs.Try.f56) 0)]) (by kernel_rfl) (.one (by kernel_rfl) h0 trivial)) (s56  L56_0)
/- loop.example/g00231/laws.markIntSS -/
@[reducible] def i60 : List Ty := [.v (.sl true .n), .v (.int .i64)]
@[reducible] def o60 : List Ty := [.v (.int .i64), .v (.sl true .n)]
@[reducible] def lc60_0 : List Ty := []
@[reducible] def lb60_0 : List Ty := []
@[reducible] def lv60_0 : List Ty := [.v (.int .i64), .v (.int .i64), .v (.sl true .n)]
@[reducible] def lr60_0 : List Ty := []
noncomputable def w60_0 (c56 : PTup i56 → Option (PTup o56 × BTup i56))  (again : PTup lb60_0 → PTup lv60_0 → Option (Sum (PTup lv60_0) (PTup lr60_0) × BTup lb60_0)) (x : PTup lc60_0) (y : PTup lb60_0) (z : PTup lv60_0) : Option (Sum (PTup lv60_0) (PTup lr60_0) × BTup lb60_0) :=
  bif (ltI z.2.1 (lenI z.2.2.1)) then (bif (leI (0 : Int) z.2.1) then (bif (ltI z.2.1 (lenI z.2.2.1)) then ((c56 ((rdE .n z.2.2.1 z.2.1), (z.1, ()))).bind fun r0 =>
     again () (r0.1.1, ((wI (z.2.1 + (1 : Int))), ((List.set z.2.2.1 (Int.toNat z.2.1) r0.1.2.1), ()))))
    else none)
   else none)
  else some ((Sum.inl z), ())
noncomputable def e60_0 (l : PTup lc60_0 → PTup lb60_0 → PTup lv60_0 → Option (Sum (PTup lv60_0) (PTup lr60_0) × BTup lb60_0)) : LoopE := ⟨[], lc60_0, [], lb60_0, [1, 5, 0], lv60_0, [], lr60_0, 0, l⟩
noncomputable def m60 (c56 : PTup i56 → Option (PTup o56 × BTup i56)) (l0 : PTup lc60_0 → PTup lb60_0 → PTup lv60_0 → Option (Sum (PTup lv60_0) (PTup lr60_0) × BTup lb60_0)) (y : PTup i60) : Option (PTup o60 × BTup i60) :=
  (l0 () () (y.2.1, ((0 : Int), (y.1, ())))).bind fun r0 =>
  sumElim r0.1 (fun r1 => some ((r1.1, r1.2.2), ()))
  (fun r1 => none)
noncomputable def E60 (c56 : PTup i56 → Option (PTup o56 × BTup i56)) (l0 : PTup lc60_0 → PTup lb60_0 → PTup lv60_0 → Option (Sum (PTup lv60_0) (PTup lr60_0) × BTup lb60_0)) : CEnv := ⟨⟨Go.Proofs.Try.prog, fnsL [(56, ⟨i56, o56, c56, .inp⟩)]⟩, loopsL [(2, e60_0 l0)]⟩
theorem t60_0 (c56 : PTup i56 → Option (PTup o56 × BTup i56)) (l0 : PTup lc60_0 → PTup lb60_0 → PTup lv60_0 → Option (Sum (PTup lv60_0) (PTup lr60_0) × BTup lb60_0)) (again) (x y z) : loopRound (E60 c56 l0) (loopAt (bodyOf Go.Proofs.Try.f60) 0) (e60_0 l0) Go.Proofs.Try.f60.ntmps again x y z = w60_0 c56  again x y z := by kernel_rfl
noncomputable def n60_0 (c56 : PTup i56 → Option (PTup o56 × BTup i56))  : Nat → PTup lc60_0 → PTup lb60_0 → PTup lv60_0 → Option (Sum (PTup lv60_0) (PTup lr60_0) × BTup lb60_0)
  | 0, _, _, _ => none
  | n + 1, x, y, z => w60_0 c56  (fun y z => n60_0 c56  n x y z) x y z
theorem s60 (c56 : PTup i56 → Option (PTup o56 × BTup i56)) (l0 : PTup lc60_0 → PTup lb60_0 → PTup lv60_0 → Option (Sum (PTup lv60_0) (PTup lr60_0) × BTup lb60_0)) (y) : tevM (E60 c56 l0) Go.Proofs.Try.f60 i60 o60 y = m60 c56 l0 y := by kernel_rfl
noncomputable def L60_0 : PTup lc60_0 → PTup lb60_0 → PTup lv60_0 → Option (Sum (PTup lv60_0) (PTup lr60_0) × BTup lb60_0) := n60_0 r56  fuel
noncomputable def r60 : PTup i60 → Option (PTup o60 × BTup i60) := m60 r56 L60_0
theorem k60 : CallOk Go.Proofs.Try.prog 60 ⟨i60, o60, r60, .inp⟩ := by
  have hE : ∀ g f, (E60 r56 L60_0).env.fns g = some f → CallOk Go.Proofs.Try.prog g f := fnsL_ok ⟨k56, trivial⟩
  have h0 : LoopOk Go.Proofs.Try.prog Go.Proofs.Try.f60.ntmps (loopAt (bodyOf Go.Proofs.Try.f60) 0) (e60_0 L60_0) := lp_ok (E := E60 r56 L60_0) rfl hE mixed (AllLoops.of_list (l := []) (by kernel_rfl) trivial) (n60_0 r56 ) (fun _ _ _ => rfl) (fun n x y z => t60_0 r56 L60_0 _ x y z) rfl
  exact fnM_ok (E := E60 r56 L60_0) rfl hE mixed (by kernel_rfl) (by kernel_rfl) (AllLoops.of_list (l := [(loopAt (bodyOf Go.Proofs.Try.f60) 0)]) (by kernel_rfl) (.one (by kernel_rfl) h0 trivial)) (s60 r56 L60_0)
/- loop.example/g00231/laws.markImage -/
@[reducible] def i55 : List Ty := [.a [.sl true .n], .v (.int .i64)]
@[reducible] def o55 : List Ty := [.v (.int .i64), .a [.sl true .n]]
noncomputable def m55 (c60 : PTup i60 → Option (PTup o60 × BTup i60))  (y : PTup i55) : Option (PTup o55 × BTup i55) :=
  (c60 (y.1.1, y.2)).bind fun r0 =>
  some ((r0.1.1, (r0.1.2, ())), ())
noncomputable def E55 (c60 : PTup i60 → Option (PTup o60 × BTup i60))  : CEnv := ⟨⟨Go.Proofs.Try.prog, fnsL [(60, ⟨i60, o60, c60, .inp⟩)]⟩, loopsL []⟩
theorem s55 (c60 : PTup i60 → Option (PTup o60 × BTup i60))  (y) : tevM (E55 c60 ) Go.Proofs.Try.f55 i55 o55 y = m55 c60  y := by kernel_rfl
noncomputable def r55 : PTup i55 → Option (PTup o55 × BTup i55) := m55 r60 
theorem k55 : CallOk Go.Proofs.Try.prog 55 ⟨i55, o55, r55, .inp⟩ := by
  have hE : ∀ g f, (E55 r60 ).env.fns g = some f → CallOk Go.Proofs.Try.prog g f := fnsL_ok ⟨k60, trivial⟩
  exact fnM_ok (E := E55 r60 ) rfl hE mixed (by kernel_rfl) (by kernel_rfl) (AllLoops.of_list (l := []) (by kernel_rfl) trivial) (s55 r60 )
/- loop.example/g00231/laws.markMem -/
@[reducible] def i57 : List Ty := [.a [.sl true .i, .int .i64], .v (.int .i64)]
@[reducible] def o57 : List Ty := [.v (.int .i64), .a [.sl true .i, .int .i64]]
noncomputable def m57 (c56 : PTup i56 → Option (PTup o56 × BTup i56))  (y : PTup i57) : Option (PTup o57 × BTup i57) :=
  (c56 (y.1.1, y.2)).bind fun r0 =>
  some ((r0.1.1, ((r0.1.2.1, y.1.2), ())), ())
noncomputable def E57 (c56 : PTup i56 → Option (PTup o56 × BTup i56))  : CEnv := ⟨⟨Go.Proofs.Try.prog, fnsL [(56, ⟨i56, o56, c56, .inp⟩)]⟩, loopsL []⟩
theorem s57 (c56 : PTup i56 → Option (PTup o56 × BTup i56))  (y) : tevM (E57 c56 ) Go.Proofs.Try.f57 i57 o57 y = m57 c56  y := by kernel_rfl
noncomputable def r57 : PTup i57 → Option (PTup o57 × BTup i57) := m57 r56 
theorem k57 : CallOk Go.Proofs.Try.prog 57 ⟨i57, o57, r57, .inp⟩ := by
  have hE : ∀ g f, (E57 r56 ).env.fns g = some f → CallOk Go.Proofs.Try.prog g f := fnsL_ok ⟨k56, trivial⟩
  exact fnM_ok (E := E57 r56 ) rfl hE mixed (by kernel_rfl) (by kernel_rfl) (AllLoops.of_list (l := []) (by kernel_rfl) trivial) (s57 r56 )
/- loop.example/g00231/laws.markPpu -/
@[reducible] def i73 : List Ty := [.a [.int .i64, .int .i64, .int .i64, .int .i64, .int .i64, .bool, .sl true .i, .sl true .i], .v (.int .i64)]
@[reducible] def o73 : List Ty := [.v (.int .i64), .a [.int .i64, .int .i64, .int .i64, .int .i64, .int .i64, .bool, .sl true .i, .sl true .i]]
noncomputable def m73 (c56 : PTup i56 → Option (PTup o56 × BTup i56))  (y : PTup i73) : Option (PTup o73 × BTup i73) :=
  (c56 (y.1.2.2.2.2.2.2.1, y.2)).bind fun r0 =>
  (c56 (y.1.2.2.2.2.2.2.2.1, (r0.1.1, ()))).bind fun r1 =>
  some ((r1.1.1, ((y.1.1, (y.1.2.1, (y.1.2.2.1, (y.1.2.2.2.1, (y.1.2.2.2.2.1, (y.1.2.2.2.2.2.1, (r0.1.2.1, r1.1.2))))))), ())), ())
noncomputable def E73 (c56 : PTup i56 → Option (PTup o56 × BTup i56))  : CEnv := ⟨⟨Go.Proofs.Try.prog, fnsL [(56, ⟨i56, o56, c56, .inp⟩)]⟩, loopsL []⟩
theorem s73 (c56 : PTup i56 → Option (PTup o56 × BTup i56))  (y) : tevM (E73 c56 ) Go.Proofs.Try.f73 i73 o73 y = m73 c56  y := by kernel_rfl
noncomputable def r73 : PTup i73 → Option (PTup o73 × BTup i73) := m73 r56 
theorem k73 : CallOk Go.Proofs.Try.prog 73 ⟨i73, o73, r73, .inp⟩ := by
  have hE : ∀ g f, (E73 r56 ).env.fns g = some f → CallOk Go.Proofs.Try.prog g f := fnsL_ok ⟨k56, trivial⟩
  exact fnM_ok (E := E73 r56 ) rfl hE mixed (by kernel_rfl) (by kernel_rfl) (AllLoops.of_list (l := []) (by kernel_rfl) trivial) (s73 r56 )
/- loop.example/g00231/laws.markRecS -/
@[reducible] def i78 : List Ty := [.v (.sl true .t), .v (.int .i64)]
@[reducible] def o78 : List Ty := [.v (.int .i64), .v (.sl true .t)]
@[reducible] def lc78_0 : List Ty := []
@[reducible] def lb78_0 : List Ty := []
@[reducible] def lv78_0 : List Ty := [.v (.int .i64), .v (.int .i64), .v (.sl true .t)]
@[reducible] def lr78_0 : List Ty := []
noncomputable def w78_0   (again : PTup lb78_0 → PTup lv78_0 → Option (Sum (PTup lv78_0) (PTup lr78_0) × BTup lb78_0)) (x : PTup lc78_0) (y : PTup lb78_0) (z : PTup lv78_0) : Option (Sum (PTup lv78_0) (PTup lr78_0) × BTup lb78_0) :=
  bif (ltI z.2.1 (lenI z.2.2.1)) then (bif (leI (0 : Int) z.2.1) then (bif (ltI z.2.1 (lenI z.2.2.1)) then (bif (leI (0 : Int) z.2.1) then (bif (ltI z.2.1 (lenI (List.set z.2.2.1 (Int.toNat z.2.1) (setT (rdE .t z.2.2.1 z.2.1) z.1 ((0 : Nat) + (0 : Nat)))))) then (bif (leI (0 : Int) z.2.1) then (bif (ltI z.2.1 (lenI (List.set (List.set z.2.2.1 (Int.toNat z.2.1) (setT (rdE .t z.2.2.1 z.2.1) z.1 ((0 : Nat) + (0 : Nat)))) (Int.toNat z.2.1) (setT (rdE .t (List.set z.2.2.1 (Int.toNat z.2.1) (setT (rdE .t z.2.2.1 z.2.1) z.1 ((0 : Nat) + (0 : Nat)))) z.2.1) (wI (z.1 + (1 : Int))) ((0 : Nat) + (1 : Nat)))))) then (again () ((wI ((wI ((wI (z.1 + (1 : Int))) + (1 : Int))) + (1 : Int))), ((wI (z.2.1 + (1 : Int))), ((List.set (List.set (List.set z.2.2.1 (Int.toNat z.2.1) (setT (rdE .t z.2.2.1 z.2.1) z.1 ((0 : Nat) + (0 : Nat)))) (Int.toNat z.2.1) (setT (rdE .t (List.set z.2.2.1 (Int.toNat z.2.1) (setT (rdE .t z.2.2.1 z.2.1) z.1 ((0 : Nat) + (0 : Nat)))) z.2.1) (wI (z.1 + (1 : Int))) ((0 : Nat) + (1 : Nat)))) (Int.toNat z.2.1) (setT (rdE .t (List.set (List.set z.2.2.1 (Int.toNat z.2.1) (setT (rdE .t z.2.2.1 z.2.1) z.1 ((0 : Nat) + (0 : Nat)))) (Int.toNat z.2.1) (setT (rdE .t (List.set z.2.2.1 (Int.toNat z.2.1) (setT (rdE .t z.2.2.1 z.2.1) z.1 ((0 : Nat) + (0 : Nat)))) z.2.1) (wI (z.1 + (1 : Int))) ((0 : Nat) + (1 : Nat)))) z.2.1) (wI ((wI (z.1 + (1 : Int))) + (1 : Int))) ((0 : Nat) + (2 : Nat)))), ()))))
        else none)
       else none)
      else none)
     else none)
    else none)
   else none)
  else some ((Sum.inl z), ())
noncomputable def e78_0 (l : PTup lc78_0 → PTup lb78_0 → PTup lv78_0 → Option (Sum (PTup lv78_0) (PTup lr78_0) × BTup lb78_0)) : LoopE := ⟨[], lc78_0, [], lb78_0, [1, 5, 0], lv78_0, [], lr78_0, 0, l⟩
noncomputable def m78  (l0 : PTup lc78_0 → PTup lb78_0 → PTup lv78_0 → Option (Sum (PTup lv78_0) (PTup lr78_0) × BTup lb78_0)) (y : PTup i78) : Option (PTup o78 × BTup i78) :=
  (l0 () () (y.2.1, ((0 : Int), (y.1, ())))).bind fun r0 =>
  sumElim r0.1 (fun r1 => some ((r1.1, r1.2.2), ()))
  (fun r1 => none)
noncomputable def E78  (l0 : PTup lc78_0 → PTup lb78_0 → PTup lv78_0 → Option (Sum (PTup lv78_0) (PTup lr78_0) × BTup lb78_0)) : CEnv := ⟨⟨Go.Proofs.Try.prog, fnsL []⟩, loopsL [(2, e78_0 l0)]⟩
theorem t78_0  (l0 : PTup lc78_0 → PTup lb78_0 → PTup lv78_0 → Option (Sum (PTup lv78_0) (PTup lr78_0) × BTup lb78_0)) (again) (x y z) : loopRound (E78  l0) (loopAt (bodyOf Go.Proofs.Try.f78) 0) (e78_0 l0) Go.Proofs.Try.f78.ntmps again x y z = w78_0   again x y z := by kernel_rfl
noncomputable def n78_0   : Nat → PTup lc78_0 → PTup lb78_0 → PTup lv78_0 → Option (Sum (PTup lv78_0) (PTup lr78_0) × BTup lb78_0)
  | 0, _, _, _ => none
  | n + 1, x, y, z => w78_0   (fun y z => n78_0   n x y z) x y z
theorem s78  (l0 : PTup lc78_0 → PTup lb78_0 → PTup lv78_0 → Option (Sum (PTup lv78_0) (PTup lr78_0) × BTup lb78_0)) (y) : tevM (E78  l0) Go.Proofs.Try.f78 i78 o78 y = m78  l0 y := by kernel_rfl
noncomputable def L78_0 : PTup lc78_0 → PTup lb78_0 → PTup lv78_0 → Option (Sum (PTup lv78_0) (PTup lr78_0) × BTup lb78_0) := n78_0   fuel
noncomputable def r78 : PTup i78 → Option (PTup o78 × BTup i78) := m78  L78_0
theorem k78 : CallOk Go.Proofs.Try.prog 78 ⟨i78, o78, r78, .inp⟩ := by
  have hE : ∀ g f, (E78  L78_0).env.fns g = some f → CallOk Go.Proofs.Try.prog g f := fnsL_ok trivial
  have h0 : LoopOk Go.Proofs.Try.prog Go.Proofs.Try.f78.ntmps (loopAt (bodyOf Go.Proofs.Try.f78) 0) (e78_0 L78_0) := lp_ok (E := E78  L78_0) rfl hE mixed (AllLoops.of_list (l := []) (by kernel_rfl) trivial) (n78_0  ) (fun _ _ _ => rfl) (fun n x y z => t78_0  L78_0 _ x y z) rfl
  exact fnM_ok (E := E78  L78_0) rfl hE mixed (by kernel_rfl) (by kernel_rfl) (AllLoops.of_list (l := [(loopAt (bodyOf Go.Proofs.Try.f78) 0)]) (by kernel_rfl) (.one (by kernel_rfl) h0 trivial)) (s78  L78_0)
/- loop.example/g00231/laws.markRing -/
@[reducible] def i74 : List Ty := [.a [.int .i64, .sl true .t], .v (.int .i64)]
@[reducible] def o74 : List Ty := [.v (.int .i64), .a [.int .i64, .sl true .t]]
noncomputable def m74 (c78 : PTup i78 → Option (PTup o78 × BTup i78))  (y : PTup i74) : Option (PTup o74 × BTup i74) :=
  (c78 (y.1.2.1, y.2)).bind fun r0 =>
  some ((r0.1.1, ((y.1.1, r0.1.2), ())), ())
noncomputable def E74 (c78 : PTup i78 → Option (PTup o78 × BTup i78))  : CEnv := ⟨⟨Go.Proofs.Try.prog, fnsL [(78, ⟨i78, o78, c78, .inp⟩)]⟩, loopsL []⟩
theorem s74 (c78 : PTup i78 → Option (PTup o78 × BTup i78))  (y) : tevM (E74 c78 ) Go.Proofs.Try.f74 i74 o74 y = m74 c78  y := by kernel_rfl
noncomputable def r74 : PTup i74 → Option (PTup o74 × BTup i74) := m74 r78 
theorem k74 : CallOk Go.Proofs.Try.prog 74 ⟨i74, o74, r74, .inp⟩ := by
  have hE : ∀ g f, (E74 r78 ).env.fns g = some f → CallOk Go.Proofs.Try.prog g f := fnsL_ok ⟨k78, trivial⟩
  exact fnM_ok (E := E74 r78 ) rfl hE mixed (by kernel_rfl) (by kernel_rfl) (AllLoops.of_list (l := []) (by kernel_rfl) trivial) (s74 r78 )
/- loop.example/g00231/laws.markPicture -/
@[reducible] def i58 : List Ty := [.a [.int .i64, .int .i64, .int .i64, .int .i64, .int .i64, .bool, .sl true .i, .sl true .i, .int .i64, .sl true .t, .sl true .n], .v (.int .i64)]
@[reducible] def o58 : List Ty := [.v (.int .i64), .a [.int .i64, .int .i64, .int .i64, .int .i64, .int .i64, .bool, .sl true .i, .sl true .i, .int .i64, .sl true .t, .sl true .n]]
noncomputable def m58 (c60 : PTup i60 → Option (PTup o60 × BTup i60)) (c73 : PTup i73 → Option (PTup o73 × BTup i73)) (c74 : PTup i74 → Option (PTup o74 × BTup i74))  (y : PTup i58) : Option (PTup o58 × BTup i58) :=
  (c73 ((y.1.1, (y.1.2.1, (y.1.2.2.1, (y.1.2.2.2.1, (y.1.2.2.2.2.1, (y.1.2.2.2.2.2.1, (y.1.2.2.2.2.2.2.1, (y.1.2.2.2.2.2.2.2.1, ())))))))), y.2)).bind fun r0 =>
  (c74 ((y.1.2.2.2.2.2.2.2.2.1, (y.1.2.2.2.2.2.2.2.2.2.1, ())), (r0.1.1, ()))).bind fun r1 =>
  (c60 (y.1.2.2.2.2.2.2.2.2.2.2.1, (r1.1.1, ()))).bind fun r2 =>
  some ((r2.1.1, ((y.1.1, (y.1.2.1, (y.1.2.2.1, (y.1.2.2.2.1, (y.1.2.2.2.2.1, (y.1.2.2.2.2.2.1, (r0.1.2.1.2.2.2.2.2.2.1, (r0.1.2.1.2.2.2.2.2.2.2.1, (y.1.2.2.2.2.2.2.2.2.1, (r1.1.2.1.2.1, r2.1.2)))))))))), ())), ())
noncomputable def E58 (c60 : PTup i60 → Option (PTup o60 × BTup i60)) (c73 : PTup i73 → Option (PTup o73 × BTup i73)) (c74 : PTup i74 → Option (PTup o74 × BTup i74))  : CEnv := ⟨⟨Go.Proofs.Try.prog, fnsL [(60, ⟨i60, o60, c60, .inp⟩), (73, ⟨i73, o73, c73, .inp⟩), (74, ⟨i74, o74, c74, .inp⟩)]⟩, loopsL []⟩
theorem s58 (c60 : PTup i60 → Option (PTup o60 × BTup i60)) (c73 : PTup i73 → Option (PTup o73 × BTup i73)) (c74 : PTup i74 → Option (PTup o74 × BTup i74))  (y) : tevM (E58 c60 c73 c74 ) Go.Proofs.Try.f58 i58 o58 y = m58 c60 c73 c74  y := by kernel_rfl
noncomputable def r58 : PTup i58 → Option (PTup o58 × BTup i58) := m58 r60 r73 r74 
theorem k58 : CallOk Go.Proofs.Try.prog 58 ⟨i58, o58, r58, .inp⟩ := by
  have hE : ∀ g f, (E58 r60 r73 r74 ).env.fns g = some f → CallOk Go.Proofs.Try.prog g f := fnsL_ok ⟨k60, k73, k74, trivial⟩
  exact fnM_ok (E := E58 r60 r73 r74 ) rfl hE mixed (by kernel_rfl) (by kernel_rfl) (AllLoops.of_list (l := []) (by kernel_rfl) trivial) (s58 r60 r73 r74 )
/- loop.example/g00231/laws.markSound -/
@[reducible] def i59 : List Ty := [.a [.int .i64, .int .i64, .int .i64, .int .i64, .int .i64, .bool, .bool, .int .i64, .sl true .t, .sl true .i], .v (.int .i64)]
@[reducible] def o59 : List Ty := [.v (.int .i64), .a [.int .i64, .int .i64, .int .i64, .int .i64, .int .i64, .bool, .bool, .int .i64, .sl true .t, .sl true .i]]
noncomputable def m59 (c56 : PTup i56 → Option (PTup o56 × BTup i56)) (c74 : PTup i74 → Option (PTup o74 × BTup i74))  (y : PTup i59) : Option (PTup o59 × BTup i59) :=
  (c74 ((y.1.2.2.2.2.2.2.2.1, (y.1.2.2.2.2.2.2.2.2.1, ())), y.2)).bind fun r0 =>
  (c56 (y.1.2.2.2.2.2.2.2.2.2.1, (r0.1.1, ()))).bind fun r1 =>
  some ((r1.1.1, ((y.1.1, (y.1.2.1, (y.1.2.2.1, (y.1.2.2.2.1, (y.1.2.2.2.2.1, (y.1.2.2.2.2.2.1, (y.1.2.2.2.2.2.2.1, (y.1.2.2.2.2.2.2.2.1, (r0.1.2.1.2.1, r1.1.2))))))))), ())), ())
noncomputable def E59 (c56 : PTup i56 → Option (PTup o56 × BTup i56)) (c74 : PTup i74 → Option (PTup o74 × BTup i74))  : CEnv := ⟨⟨Go.Proofs.Try.prog, fnsL [(56, ⟨i56, o56, c56, .inp⟩), (74, ⟨i74, o74, c74, .inp⟩)]⟩, loopsL []⟩
theorem s59 (c56 : PTup i56 → Option (PTup o56 × BTup i56)) (c74 : PTup i74 → Option (PTup o74 × BTup i74))  (y) : tevM (E59 c56 c74 ) Go.Proofs.Try.f59 i59 o59 y = m59 c56 c74  y := by kernel_rfl
noncomputable def r59 : PTup i59 → Option (PTup o59 × BTup i59) := m59 r56 r74 
theorem k59 : CallOk Go.Proofs.Try.prog 59 ⟨i59, o59, r59, .inp⟩ := by
  have hE : ∀ g f, (E59 r56 r74 ).env.fns g = some f → CallOk Go.Proofs.Try.prog g f := fnsL_ok ⟨k56, k74, trivial⟩
  exact fnM_ok (E := E59 r56 r74 ) rfl hE mixed (by kernel_rfl) (by kernel_rfl) (AllLoops.of_list (l := []) (by kernel_rfl) trivial) (s59 r56 r74 )
/- loop.example/g00231/laws.markSplit -/
@[reducible] def i16 : List Ty := [.a [.sl true .n, .sl true .i, .sl true .i, .int .i64, .int .i64, .int .i64, .int .i64, .int .i64, .bool, .bool, .bool, .bool, .bool, .int .i64, .int .i64, .bool, .int .i64, .bool, .int .i64, .int .i64, .sl true .i, .int .i64, .int .i64, .int .i64, .int .i64, .int .i64, .bool, .sl true .i, .sl true .i, .int .i64, .sl true .t, .sl true .n, .int .i64, .int .i64, .int .i64, .int .i64, .int .i64, .bool, .bool, .int .i64, .sl true .t, .sl true .i], .v (.int .i64)]
@[reducible] def o16 : List Ty := [.v (.int .i64), .a [.sl true .n, .sl true .i, .sl true .i, .int .i64, .int .i64, .int .i64, .int .i64, .int .i64, .bool, .bool, .bool, .bool, .bool, .int .i64, .int .i64, .bool, .int .i64, .bool, .int .i64, .int .i64, .sl true .i, .int .i64, .int .i64, .int .i64, .int .i64, .int .i64, .bool, .sl true .i, .sl true .i, .int .i64, .sl true .t, .sl true .n, .int .i64, .int .i64, .int .i64, .int .i64, .int .i64, .bool, .bool, .int .i64, .sl true .t, .sl true .i]]
noncomputable def m16 (c55 : PTup i55 → Option (PTup o55 × BTup i55)) (c56 : PTup i56 → Option (PTup o56 × BTup i56)) (c57 : PTup i57 → Option (PTup o57 × BTup i57)) (c58 : PTup i58 → Option (PTup o58 × BTup i58)) (c59 : PTup i59 → Option (PTup o59 × BTup i59))  (y : PTup i16) : Option (PTup o16 × BTup i16) :=
  (c55 ((y.1.1, ()), y.2)).bind fun r0 =>
  (c56 (y.1.2.1, (r0.1.1, ()))).bind fun r1 =>
  (c57 ((y.1.2.2.1, (y.1.2.2.2.1, ())), (r1.1.1, ()))).bind fun r2 =>
  (c56 (y.1.2.2.2.2.2.2.2.2.2.2.2.2.2.2.2.2.2.2.2.2.1, (r2.1.1, ()))).bind fun r3 =>
  (c58 ((y.1.2.2.2.2.2.2.2.2.2.2.2.2.2.2.2.2.2.2.2.2.2.1, (y.1.2.2.2.2.2.2.2.2.2.2.2.2.2.2.2.2.2.2.2.2.2.2.1, (y.1.2.2.2.2.2.2.2.2.2.2.2.2.2.2.2.2.2.2.2.2.2.2.2.1, (y.1.2.2.2.2.2.2.2.2.2.2.2.2.2.2.2.2.2.2.2.2.2.2.2.2.1, (y.1.2.2.2.2.2.2.2.2.2.2.2.2.2.2.2.2.2.2.2.2.2.2.2.2.2.1, (y.1.2.2.2.2.2.2.2.2.2.2.2.2.2.2.2.2.2.2.2.2.2.2.2.2.2.2.1, (y.1.2.2.2.2.2.2.2.2.2.2.2.2.2.2.2.2.2.2.2.2.2.2.2.2.2.2.2.1, (y.1.2.2.2.2.2.2.2.2.2.2.2.2.2.2.2.2.2.2.2.2.2.2.2.2.2.2.2.2.1, (y.1.2.2.2.2.2.2.2.2.2.2.2.2.2.2.2.2.2.2.2.2.2.2.2.2.2.2.2.2.2.1, (y.1.2.2.2.2.2.2.2.2.2.2.2.2.2.2.2.2.2.2.2.2.2.2.2.2.2.2.2.2.2.2.1, (y.1.2.2.2.2.2.2.2.2.2.2.2.2.2.2.2.2.2.2.2.2.2.2.2.2.2.2.2.2.2.2.2.1, ()))))))))))), (r3.1.1, ()))).bind fun r4 =>
  (c59 (y.1.2.2.2.2.2.2.2.2.2.2.2.2.2.2.2.2.2.2.2.2.2.2.2.2.2.2.2.2.2.2.2.2, (r4.1.1, ()))).bind fun r5 =>
  some ((r5.1.1, ((r0.1.2.1.1, (r1.1.2.1, (r2.1.2.1.1, (y.1.2.2.2.1, (y.1.2.2.2.2.1, (y.1.2.2.2.2.2.1, (y.1.2.2.2.2.2.2.1, (y.1.2.2.2.2.2.2.2.1, (y.1.2.2.2.2.2.2.2.2.1, (y.1.2.2.2.2.2.2.2.2.2.1, (y.1.2.2.2.2.2.2.2.2.2.2.1, (y.1.2.2.2.2.2.2.2.2.2.2.2.1, (y.1.2.2.2.2.2.2.2.2.2.2.2.2.1, (y.1.2.2.2.2.2.2.2.2.2.2.2.2.2.1, (y.1.2.2.2.2.2.2.2.2.2.2.2.2.2.2.1, (y.1.2.2.2.2.2.2.2.2.2.2.2.2.2.2.2.1, (y.1.2.2.2.2.2.2.2.2.2.2.2.2.2.2.2.2.1, (y.1.2.2.2.2.2.2.2.2.2.2.2.2.2.2.2.2.2.1, (y.1.2.2.2.2.2.2.2.2.2.2.2.2.2.2.2.2.2.2.1, (y.1.2.2.2.2.2.2.2.2.2.2.2.2.2.2.2.2.2.2.2.1, (r3.1.2.1, (y.1.2.2.2.2.2.2.2.2.2.2.2.2.2.2.2.2.2.2.2.2.2.1, (y.1.2.2.2.2.2.2.2.2.2.2.2.2.2.2.2.2.2.2.2.2.2.2.1, (y.1.2.2.2.2.2.2.2.2.2.2.2.2.2.2.2.2.2.2.2.2.2.2.2.1, (y.1.2.2.2.2.2.2.2.2.2.2.2.2.2.2.2.2.2.2.2.2.2.2.2.2.1, (y.1.2.2.2.2.2.2.2.2.2.2.2.2.2.2.2.2.2.2.2.2.2.2.2.2.2.1, (y.1.2.2.2.2.2.2.2.2.2.2.2.2.2.2.2.2.2.2.2.2.2.2.2.2.2.2.1, (r4.1.2.1.2.2.2.2.2.2.1, (r4.1.2.1.2.2.2.2.2.2.2.1, (y.1.2.2.2.2.2.2.2.2.2.2.2.2.2.2.2.2.2.2.2.2.2.2.2.2.2.2.2.2.2.1, (r4.1.2.1.2.2.2.2.2.2.2.2.2.1, (r4.1.2.1.2.2.2.2.2.2.2.2.2.2.1, (y.1.2.2.2.2.2.2.2.2.2.2.2.2.2.2.2.2.2.2.2.2.2.2.2.2.2.2.2.2.2.2.2.2.1, (y.1.2.2.2.2.2.2.2.2.2.2.2.2.2.2.2.2.2.2.2.2.2.2.2.2.2.2.2.2.2.2.2.2.2.1, (y.1.2.2.2.2.2.2.2.2.2.2.2.2.2.2.2.2.2.2.2.2.2.2.2.2.2.2.2.2.2.2.2.2.2.2.1, (y.1.2.2.2.2.2.2.2.2.2.2.2.2.2.2.2.2.2.2.2.2.2.2.2.2.2.2.2.2.2.2.2.2.2.2.2.1, (y.1.2.2.2.2.2.2.2.2.2.2.2.2.2.2.2.2.2.2.2.2.2.2.2.2.2.2.2.2.2.2.2.2.2.2.2.2.1, (y.1.2.2.2.2.2.2.2.2.2.2.2.2.2.2.2.2.2.2.2.2.2.2.2.2.2.2.2.2.2.2.2.2.2.2.2.2.2.1, (y.1.2.2.2.2.2.2.2.2.2.2.2.2.2.2.2.2.2.2.2.2.2.2.2.2.2.2.2.2.2.2.2.2.2.2.2.2.2.2.1, (y.1.2.2.2.2.2.2.2.2.2.2.2.2.2.2.2.2.2.2.2.2.2.2.2.2.2.2.2.2.2.2.2.2.2.2.2.2.2.2.2.1, r5.1.2.1.2.2.2.2.2.2.2.2)))))))))))))))))))))))))))))))))))))))), ())), ())
noncomputable def E16 (c55 : PTup i55 → Option (PTup o55 × BTup i55)) (c56 : PTup i56 → Option (PTup o56 × BTup i56)) (c57 : PTup i57 → Option (PTup o57 × BTup i57)) (c58 : PTup i58 → Option (PTup o58 × BTup i58)) (c59 : PTup i59 → Option (PTup o59 × BTup i59))  : CEnv := ⟨⟨Go.Proofs.Try.prog, fnsL [(55, ⟨i55, o55, c55, .inp⟩), (56, ⟨i56, o56, c56, .inp⟩), (57, ⟨i57, o57, c57, .inp⟩), (58, ⟨i58, o58, c58, .inp⟩), (59, ⟨i59, o59, c59, .inp⟩)]⟩, loopsL []⟩
theorem s16 (c55 : PTup i55 → Option (PTup o55 × BTup i55)) (c56 : PTup i56 → Option (PTup o56 × BTup i56)) (c57 : PTup i57 → Option (PTup o57 × BTup i57)) (c58 : PTup i58 → Option (PTup o58 × BTup i58)) (c59 : PTup i59 → Option (PTup o59 × BTup i59))  (y) : tevM (E16 c55 c56 c57 c58 c59 ) Go.Proofs.Try.f16 i16 o16 y = m16 c55 c56 c57 c58 c59  y := by kernel_rfl
noncomputable def r16 : PTup i16 → Option (PTup o16 × BTup i16) := m16 r55 r56 r57 r58 r59 
theorem k16 : CallOk Go.Proofs.Try.prog 16 ⟨i16, o16, r16, .inp⟩ := by
  have hE : ∀ g f, (E16 r55 r56 r57 r58 r59 ).env.fns g = some f → CallOk Go.Proofs.Try.prog g f := fnsL_ok ⟨k55, k56, k57, k58, k59, trivial⟩
  exact fnM_ok (E := E16 r55 r56 r57 r58 r59 ) rfl hE mixed (by kernel_rfl) (by kernel_rfl) (AllLoops.of_list (l := []) (by kernel_rfl) trivial) (s16 r55 r56 r57 r58 r59 )
/- loop.example/g00231/laws.markObs -/
@[reducible] def i17 : List Ty := [.a [.sl true .n, .sl true .i, .sl true .i], .v (.int .i64)]
@[reducible] def o17 : List Ty := [.v (.int .i64), .a [.sl true .n, .sl true .i, .sl true .i]]
noncomputable def m17 (c56 : PTup i56 → Option (PTup o56 × BTup i56)) (c60 : PTup i60 → Option (PTup o60 × BTup i60))  (y : PTup i17) : Option (PTup o17 × BTup i17) :=
  (c60 (y.1.1, y.2)).bind fun r0 =>
  (c56 (y.1.2.1, (r0.1.1, ()))).bind fun r1 =>
  (c56 (y.1.2.2.1, (r1.1.1, ()))).bind fun r2 =>
  some ((r2.1.1, ((r0.1.2.1, (r1.1.2.1, r2.1.2)), ())), ())
noncomputable def E17 (c56 : PTup i56 → Option (PTup o56 × BTup i56)) (c60 : PTup i60 → Option (PTup o60 × BTup i60))  : CEnv := ⟨⟨Go.Proofs.Try.prog, fnsL [(56, ⟨i56, o56, c56, .inp⟩), (60, ⟨i60, o60, c60, .inp⟩)]⟩, loopsL []⟩
theorem s17 (c56 : PTup i56 → Option (PTup o56 × BTup i56)) (c60 : PTup i60 → Option (PTup o60 × BTup i60))  (y) : tevM (E17 c56 c60 ) Go.Proofs.Try.f17 i17 o17 y = m17 c56 c60  y := by kernel_rfl
noncomputable def r17 : PTup i17 → Option (PTup o17 × BTup i17) := m17 r56 r60 
theorem k17 : CallOk Go.Proofs.Try.prog 17 ⟨i17, o17, r17, .inp⟩ := by
  have hE : ∀ g f, (E17 r56 r60 ).env.fns g = some f → CallOk Go.Proofs.Try.prog g f := fnsL_ok ⟨k56, k60, trivial⟩
  exact fnM_ok (E := E17 r56 r60 ) rfl hE mixed (by kernel_rfl) (by kernel_rfl) (AllLoops.of_list (l := []) (by kernel_rfl) trivial) (s17 r56 r60 )
/- loop.example/g00231/laws.heldIntS -/
@[reducible] def i62 : List Ty := [.v (.sl false .i), .v (.int .i64)]
@[reducible] def o62 : List Ty := [.v (.int .i64)]
@[reducible] def lc62_0 : List Ty := [.v (.sl false .i)]
@[reducible] def lb62_0 : List Ty := []
@[reducible] def lv62_0 : List Ty := [.v (.int .i64), .v (.int .i64)]
@[reducible] def lr62_0 : List Ty := [.v (.int .i64)]
noncomputable def w62_0   (again : PTup lb62_0 → PTup lv62_0 → Option (Sum (PTup lv62_0) (PTup lr62_0) × BTup lb62_0)) (x : PTup lc62_0) (y : PTup lb62_0) (z : PTup lv62_0) : Option (Sum (PTup lv62_0) (PTup lr62_0) × BTup lb62_0) :=
  bif (ltI z.2.1 (lenI x.1)) then (bif (leI (0 : Int) z.2.1) then (bif (ltI z.2.1 (lenI x.1)) then (bif (neI (rdE .i x.1 z.2.1) z.1) then (some ((Sum.inr ((-(1 : Int)), ())), ()))
     else again () ((wI (z.1 + (1 : Int))), ((wI (z.2.1 + (1 : Int))), ())))
    else none)
   else none)
  else some ((Sum.inl z), ())
noncomputable def e62_0 (l : PTup lc62_0 → PTup lb62_0 → PTup lv62_0 → Option (Sum (PTup lv62_0) (PTup lr62_0) × BTup lb62_0)) : LoopE := ⟨[0], lc62_0, [], lb62_0, [1, 5], lv62_0, [4], lr62_0, 0, l⟩
noncomputable def m62  (l0 : PTup lc62_0 → PTup lb62_0 → PTup lv62_0 → Option (Sum (PTup lv62_0) (PTup lr62_0) × BTup lb62_0)) (y : PTup i62) : Option (PTup o62 × BTup i62) :=
  (l0 (y.1, ()) () (y.2.1, ((0 : Int), ()))).bind fun r0 =>
  sumElim r0.1 (fun r1 => some ((r1.1, ()), ()))
  (fun r1 => some (r1, ()))
noncomputable def E62  (l0 : PTup lc62_0 → PTup lb62_0 → PTup lv62_0 → Option (Sum (PTup lv62_0) (PTup lr62_0) × BTup lb62_0)) : CEnv := ⟨⟨Go.Proofs.Try.prog, fnsL []⟩, loopsL [(2, e62_0 l0)]⟩
theorem t62_0  (l0 : PTup lc62_0 → PTup lb62_0 → PTup lv62_0 → Option (Sum (PTup lv62_0) (PTup lr62_0) × BTup lb62_0)) (again) (x y z) : loopRound (E62  l0) (loopAt (bodyOf Go.Proofs.Try.f62) 0) (e62_0 l0) Go.Proofs.Try.f62.ntmps again x y z = w62_0   again x y z := by kernel_rfl
noncomputable def n62_0   : Nat → PTup lc62_0 → PTup lb62_0 → PTup lv62_0 → Option (Sum (PTup lv62_0) (PTup lr62_0) × BTup lb62_0)
  | 0, _, _, _ => none
  | n + 1, x, y, z => w62_0   (fun y z => n62_0   n x y z) x y z
theorem s62  (l0 : PTup lc62_0 → PTup lb62_0 → PTup lv62_0 → Option (Sum (PTup lv62_0) (PTup lr62_0) × BTup lb62_0)) (y) : tevF (E62  l0) Go.Proofs.Try.f62 i62 o62 y = m62  l0 y := by kernel_rfl
noncomputable def L62_0 : PTup lc62_0 → PTup lb62_0 → PTup lv62_0 → Option (Sum (PTup lv62_0) (PTup lr62_0) × BTup lb62_0) := n62_0   fuel
noncomputable def r62 : PTup i62 → Option (PTup o62 × BTup i62) := m62  L62_0
theorem k62 : CallOk Go.Proofs.Try.prog 62 ⟨i62, o62, r62, .nor⟩ := by
  have hE : ∀ g f, (E62  L62_0).env.fns g = some f → CallOk Go.Proofs.Try.prog g f := fnsL_ok trivial
  have h0 : LoopOk Go.Proofs.Try.prog Go.Proofs.Try.f62.ntmps (loopAt (bodyOf Go.Proofs.Try.f62) 0) (e62_0 L62_0) := lp_ok (E := E62  L62_0) rfl hE mixed (AllLoops.of_list (l := []) (by kernel_rfl) trivial) (n62_0  ) (fun _ _ _ => rfl) (fun n x y z => t62_0  L62_0 _ x y z) rfl
  exact fn_ok (E := E62  L62_0) rfl hE mixed (by kernel_rfl) (by kernel_rfl) (AllLoops.of_list (l := [(loopAt (bodyOf Go.Proofs.Try.f62) 0)]) (by kernel_rfl) (.one (by kernel_rfl) h0 trivial)) (s62  L62_0)
/- loop.example/g00231/laws.heldIntSS -/
@[reducible] def i61 : List Ty := [.v (.sl false .n), .v (.int .i64)]
@[reducible] def o61 : List Ty := [.v (.int .i64)]
@[reducible] def lc61_0 : List Ty := [.v (.sl false .n)]
@[reducible] def lb61_0 : List Ty := []
@[reducible] def lv61_0 : List Ty := [.v (.int .i64), .v (.int .i64)]
@[reducible] def lr61_0 : List Ty := [.v (.int .i64)]
noncomputable def w61_0 (c62 : PTup i62 → Option (PTup o62 × BTup i62))  (again : PTup lb61_0 → PTup lv61_0 → Option (Sum (PTup lv61_0) (PTup lr61_0) × BTup lb61_0)) (x : PTup lc61_0) (y : PTup lb61_0) (z : PTup lv61_0) : Option (Sum (PTup lv61_0) (PTup lr61_0) × BTup lb61_0) :=
  bif (ltI z.2.1 (lenI x.1)) then (bif (leI (0 : Int) z.2.1) then (bif (ltI z.2.1 (lenI x.1)) then ((c62 ((rdE .n x.1 z.2.1), (z.1, ()))).bind fun r0 =>
     bif (ltI r0.1.1 (0 : Int)) then (some ((Sum.inr ((-(1 : Int)), ())), ()))
     else again () (r0.1.1, ((wI (z.2.1 + (1 : Int))), ())))
    else none)
   else none)
  else some ((Sum.inl z), ())
noncomputable def e61_0 (l : PTup lc61_0 → PTup lb61_0 → PTup lv61_0 → Option (Sum (PTup lv61_0) (PTup lr61_0) × BTup lb61_0)) : LoopE := ⟨[0], lc61_0, [], lb61_0, [1, 5], lv61_0, [4], lr61_0, 0, l⟩
noncomputable def m61 (c62 : PTup i62 → Option (PTup o62 × BTup i62)) (l0 : PTup lc61_0 → PTup lb61_0 → PTup lv61_0 → Option (Sum (PTup lv61_0) (PTup lr61_0) × BTup lb61_0)) (y : PTup i61) : Option (PTup o61 × BTup i61) :=
  (l0 (y.1, ()) () (y.2.1, ((0 : Int), ()))).bind fun r0 =>
  sumElim r0.1 (fun r1 => some ((r1.1, ()), ()))
  (fun r1 => some (r1, ()))
noncomputable def E61 (c62 : PTup i62 → Option (PTup o62 × BTup i62)) (l0 : PTup lc61_0 → PTup lb61_0 → PTup lv61_0 → Option (Sum (PTup lv61_0) (PTup lr61_0) × BTup lb61_0)) : CEnv := ⟨⟨Go.Proofs.Try.prog, fnsL [(62, ⟨i62, o62, c62, .nor⟩)]⟩, loopsL [(2, e61_0 l0)]⟩
theorem t61_0 (c62 : PTup i62 → Option (PTup o62 × BTup i62)) (l0 : PTup lc61_0 → PTup lb61_0 → PTup lv61_0 → Option (Sum (PTup lv61_0) (PTup lr61_0) × BTup lb61_0)) (again) (x y z) : loopRound (E61 c62 l0) (loopAt (bodyOf Go.Proofs.Try.f61) 0) (e61_0 l0) Go.Proofs.Try.f61.ntmps again x y z = w61_0 c62  again x y z := by kernel_rfl
noncomputable def n61_0 (c62 : PTup i62 → Option (PTup o62 × BTup i62))  : Nat → PTup lc61_0 → PTup lb61_0 → PTup lv61_0 → Option (Sum (PTup lv61_0) (PTup lr61_0) × BTup lb61_0)
  | 0, _, _, _ => none
  | n + 1, x, y, z => w61_0 c62  (fun y z => n61_0 c62  n x y z) x y z
theorem s61 (c62 : PTup i62 → Option (PTup o62 × BTup i62)) (l0 : PTup lc61_0 → PTup lb61_0 → PTup lv61_0 → Option (Sum (PTup lv61_0) (PTup lr61_0) × BTup lb61_0)) (y) : tevF (E61 c62 l0) Go.Proofs.Try.f61 i61 o61 y = m61 c62 l0 y := by kernel_rfl
noncomputable def L61_0 : PTup lc61_0 → PTup lb61_0 → PTup lv61_0 → Option (Sum (PTup lv61_0) (PTup lr61_0) × BTup lb61_0) := n61_0 r62  fuel
noncomputable def r61 : PTup i61 → Option (PTup o61 × BTup i61) := m61 r62 L61_0
theorem k61 : CallOk Go.Proofs.Try.prog 61 ⟨i61, o61, r61, .nor⟩ := by
  have hE : ∀ g f, (E61 r62 L61_0).env.fns g = some f → CallOk Go.Proofs.Try.prog g f := fnsL_ok ⟨k62, trivial⟩
  have h0 : LoopOk Go.Proofs.Try.prog Go.Proofs.Try.f61.ntmps (loopAt (bodyOf Go.Proofs.Try.f61) 0) (e61_0 L61_0) := lp_ok (E := E61 r62 L61_0) rfl hE mixed (AllLoops.of_list (l := []) (by kernel_rfl) trivial) (n61_0 r62 ) (fun _ _ _ => rfl) (fun n x y z => t61_0 r62 L61_0 _ x y z) rfl
  exact fn_ok (E := E61 r62 L61_0) rfl hE mixed (by kernel_rfl) (by kernel_rfl) (AllLoops.of_list (l := [(loopAt (bodyOf Go.Proofs.Try.f61) 0)]) (by kernel_rfl) (.one (by kernel_rfl) h0 trivial)) (s61 r62 L61_0)
/- loop.example/g00231/laws.heldObs -/
@[reducible] def i18 : List Ty := [.a [.sl false .n, .sl false .i, .sl false .i], .v (.int .i64)]
@[reducible] def o18 : List Ty := [.v (.int .i64)]
noncomputable def m18 (c62 : PTup i62 → Option (PTup o62 × BTup i62)) (c61 : PTup i61 → Option (PTup o61 × BTup i61))  (y : PTup i18) : Option (PTup o18 × BTup i18) :=
  (c61 (y.1.1, y.2)).bind fun r0 =>
  bif (ltI r0.1.1 (0 : Int)) then (some (((-(1 : Int)), ()), ()))
  else (c62 (y.1.2.1, r0.1)).bind fun r1 =>
  bif (ltI r1.1.1 (0 : Int)) then (some (((-(1 : Int)), ()), ()))
  else (c62 (y.1.2.2.1, r1.1)).bind fun r2 =>
  bif (ltI r2.1.1 (0 : Int)) then (some (((-(1 : Int)), ()), ()))
  else some (r2.1, ())
noncomputable def E18 (c62 : PTup i62 → Option (PTup o62 × BTup i62)) (c61 : PTup i61 → Option (PTup o61 × BTup i61))  : CEnv := ⟨⟨Go.Proofs.Try.prog, fnsL [(62, ⟨i62, o62, c62, .nor⟩), (61, ⟨i61, o61, c61, .nor⟩)]⟩, loopsL []⟩
theorem s18 (c62 : PTup i62 → Option (PTup o62 × BTup i62)) (c61 : PTup i61 → Option (PTup o61 × BTup i61))  (y) : tevF (E18 c62 c61 ) Go.Proofs.Try.f18 i18 o18 y = m18 c62 c61  y := by kernel_rfl
noncomputable def r18 : PTup i18 → Option (PTup o18 × BTup i18) := m18 r62 r61 
theorem k18 : CallOk Go.Proofs.Try.prog 18 ⟨i18, o18, r18, .nor⟩ := by
  have hE : ∀ g f, (E18 r62 r61 ).env.fns g = some f → CallOk Go.Proofs.Try.prog g f := fnsL_ok ⟨k62, k61, trivial⟩
  exact fn_ok (E := E18 r62 r61 ) rfl hE mixed (by kernel_rfl) (by kernel_rfl) (AllLoops.of_list (l := []) (by kernel_rfl) trivial) (s18 r62 r61 )
/- loop.example/g00231/laws.FnExactObsOf -/
@[reducible] def i4 : List Ty := [.a [.sl false .n, .sl false .i, .sl false .i, .int .i64, .int .i64, .int .i64, .int .i64, .int .i64, .bool, .bool, .bool, .bool, .bool, .int .i64, .int .i64, .bool, .int .i64, .bool, .int .i64, .int .i64, .sl false .i, .int .i64, .int .i64, .int .i64, .int .i64, .int .i64, .bool, .sl false .i, .sl false .i, .int .i64, .sl false .t, .sl false .n, .int .i64, .int .i64, .int .i64, .int .i64, .int .i64, .bool, .bool, .int .i64, .sl false .t, .sl false .i]]
@[reducible] def o4 : List Ty := [.v (.bool)]
noncomputable def m4 (c13 : PTup i13 → Option (PTup o13 × BTup i13)) (c14 : PTup i14 → Option (PTup o14 × BTup i14)) (c15 : PTup i15 → Option (PTup o15 × BTup i15)) (c18 : PTup i18 → Option (PTup o18 × BTup i18)) (c17 : PTup i17 → Option (PTup o17 × BTup i17)) (c16 : PTup i16 → Option (PTup o16 × BTup i16)) (c10 : PTup i10 → Option (PTup o10 × BTup i10)) (c12 : PTup i12 → Option (PTup o12 × BTup i12)) (c11 : PTup i11 → Option (PTup o11 × BTup i11))  (y : PTup i4) : Option (PTup o4 × BTup i4) :=
  (c10 (y.1, ((1048576 : Int), ()))).bind fun r0 =>
  bif (ltI r0.1.1 (0 : Int)) then (some ((true, ()), ()))
  else (c12 (y.1, ())).bind fun r1 =>
  (c11 (r1.1.1, ())).bind fun r2 =>
  (c12 (y.1, ())).bind fun r3 =>
  (c13 (r3.1.1, ())).bind fun r4 =>
  (c14 (r4.1.1, (r2.1.1, ()))).bind fun r5 =>
  bif (!r5.1.1) then (some ((false, ()), ()))
  else (c12 (y.1, ())).bind fun r6 =>
  (c15 (r3.1.1, (r6.1.1, ()))).bind fun r7 =>
  bif (!r7.1.1) then (some ((false, ()), ()))
  else (c16 (r3.1.1, ((1 : Int), ()))).bind fun r8 =>
  bif (ltI r8.1.1 (0 : Int)) then (some ((false, ()), ()))
  else (c14 (r4.1.1, (r2.1.1, ()))).bind fun r9 =>
  bif (!r9.1.1) then (some ((false, ()), ()))
  else (c17 (r4.1.1, ((1 : Int), ()))).bind fun r10 =>
  (c18 (r10.1.2.1, ((1 : Int), ()))).bind fun r11 =>
  bif (ltI r11.1.1 (0 : Int)) then (some ((false, ()), ()))
  else bif (neI r11.1.1 r10.1.1) then (some ((false, ()), ()))
  else (c12 (y.1, ())).bind fun r12 =>
  (c13 (r12.1.1, ())).bind fun r13 =>
  (c14 (r13.1.1, (r2.1.1, ()))).bind fun r14 =>
  bif (!r14.1.1) then (some ((false, ()), ()))
  else (c18 (r10.1.2.1, ((1 : Int), ()))).bind fun r15 =>
  bif (ltI r15.1.1 (0 : Int)) then (some ((false, ()), ()))
  else bif (neI r15.1.1 r10.1.1) then (some ((false, ()), ()))
  else some ((true, ()), ())
noncomputable def E4 (c13 : PTup i13 → Option (PTup o13 × BTup i13)) (c14 : PTup i14 → Option (PTup o14 × BTup i14)) (c15 : PTup i15 → Option (PTup o15 × BTup i15)) (c18 : PTup i18 → Option (PTup o18 × BTup i18)) (c17 : PTup i17 → Option (PTup o17 × BTup i17)) (c16 : PTup i16 → Option (PTup o16 × BTup i16)) (c10 : PTup i10 → Option (PTup o10 × BTup i10)) (c12 : PTup i12 → Option (PTup o12 × BTup i12)) (c11 : PTup i11 → Option (PTup o11 × BTup i11))  : CEnv := ⟨⟨Go.Proofs.Try.prog, fnsL [(13, ⟨i13, o13, c13, .nor⟩), (14, ⟨i14, o14, c14, .nor⟩), (15, ⟨i15, o15, c15, .nor⟩), (18, ⟨i18, o18, c18, .nor⟩), (17, ⟨i17, o17, c17, .inp⟩), (16, ⟨i16, o16, c16, .inp⟩), (10, ⟨i10, o10, c10, .nor⟩), (12, ⟨i12, o12, c12, .nor⟩), (11, ⟨i11, o11, c11, .nor⟩)]⟩, loopsL []⟩
theorem s4 (c13 : PTup i13 → Option (PTup o13 × BTup i13)) (c14 : PTup i14 → Option (PTup o14 × BTup i14)) (c15 : PTup i15 → Option (PTup o15 × BTup i15)) (c18 : PTup i18 → Option (PTup o18 × BTup i18)) (c17 : PTup i17 → Option (PTup o17 × BTup i17)) (c16 : PTup i16 → Option (PTup o16 × BTup i16)) (c10 : PTup i10 → Option (PTup o10 × BTup i10)) (c12 : PTup i12 → Option (PTup o12 × BTup i12)) (c11 : PTup i11 → Option (PTup o11 × BTup i11))  (y) : tevF (E4 c13 c14 c15 c18 c17 c16 c10 c12 c11 ) Go.Proofs.Try.f4 i4 o4 y = m4 c13 c14 c15 c18 c17 c16 c10 c12 c11  y := by kernel_rfl
noncomputable def r4 : PTup i4 → Option (PTup o4 × BTup i4) := m4 r13 r14 r15 r18 r17 r16 r10 r12 r11 
theorem k4 : CallOk Go.Proofs.Try.prog 4 ⟨i4, o4, r4, .nor⟩ := by
  have hE : ∀ g f, (E4 r13 r14 r15 r18 r17 r16 r10 r12 r11 ).env.fns g = some f → CallOk Go.Proofs.Try.prog g f := fnsL_ok ⟨k13, k14, k15, k18, k17, k16, k10, k12, k11, trivial⟩
  exact fn_ok (E := E4 r13 r14 r15 r18 r17 r16 r10 r12 r11 ) rfl hE mixed (by kernel_rfl) (by kernel_rfl) (AllLoops.of_list (l := []) (by kernel_rfl) trivial) (s4 r13 r14 r15 r18 r17 r16 r10 r12 r11 )
end Go.Proofs.Ytfafepmjpphfeaa.Plain
