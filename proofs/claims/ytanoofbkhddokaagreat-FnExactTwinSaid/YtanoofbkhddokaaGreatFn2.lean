/- Plain functions that the program's functions answer as; their contracts. Printed by a program of the proofs' writer. No condition. -/
import Derived.Test.YtanoofbkhddokaaGreatUf
import Derived.KernelRfl
import Derived.Test.YtanoofbkhddokaaGreatFn1
set_option linter.unusedVariables false
set_option linter.unusedSimpArgs false
set_option maxRecDepth 100000
namespace Go.Proofs.YtanoofbkhddokaaGreat.Plain
open Go Go.Tev
@[reducible] def i36 : List Ty := [.v (.sl true .i), .v (.int .i64)]
@[reducible] def o36 : List Ty := [.v (.int .i64), .v (.sl true .i)]
abbrev R36 := Option (PTup o36 × BTup i36)
abbrev F36 := PTup i36 → R36
abbrev g36 (c : F36) : Nat × Tev.Fn := (36, ⟨i36, o36, c, .inp⟩)
@[reducible] def lc36_0 : List Ty := []
@[reducible] def lb36_0 : List Ty := []
@[reducible] def lv36_0 : List Ty := [.v (.int .i64), .v (.int .i64), .v (.sl true .i)]
@[reducible] def lr36_0 : List Ty := []
abbrev R36_0 := Option (Sum (PTup lv36_0) (PTup lr36_0) × BTup lb36_0)
abbrev B36_0 := PTup lb36_0 → PTup lv36_0 → R36_0
abbrev A36_0 := PTup lc36_0 → B36_0
noncomputable def w36_0   (again : B36_0) (x : PTup lc36_0) (y : PTup lb36_0) (z : PTup lv36_0) : R36_0 :=
  bif (ltI z.2.1 (lenI z.2.2.1)) then (bif (leI (0 : Int) z.2.1) then (bif (ltI z.2.1 (lenI z.2.2.1)) then (again () ((wI (z.1 + (1 : Int))), ((wI (z.2.1 + (1 : Int))), ((List.set z.2.2.1 (Int.toNat z.2.1) z.1), ()))))
    else none)
   else none)
  else some ((Sum.inl z), ())
noncomputable def e36_0 (l : A36_0) : LoopE := ⟨[], lc36_0, [], lb36_0, [1, 5, 0], lv36_0, [], lr36_0, 0, [], l⟩
noncomputable def m36  (l0 : A36_0) (y : PTup i36) : Option (PTup o36 × BTup i36) :=
  (l0 () () (y.2.1, ((0 : Int), (y.1, ())))).bind fun r0 =>
  sumElim r0.1 (fun r1 => some ((r1.1, r1.2.2), ()))
  (fun r1 => none)
noncomputable def E36  (l0 : A36_0) : CEnv := ⟨⟨Tryz.prog, fnsL []⟩, loopsL [(2, e36_0 l0)]⟩
theorem t36_0  (l0 : A36_0) (again) (x y z) : loopRound (E36  l0) (loopAt (bodyOf Tryz.f36) 0) (e36_0 l0) Tryz.f36.ntmps again x y z = w36_0   again x y z := by kernel_rfl
noncomputable def n36_0   : Nat → A36_0
  | 0, _, _, _ => none
  | n + 1, x, y, z => w36_0   (fun y z => n36_0   n x y z) x y z
theorem s36  (l0 : A36_0) (y) : tevM (E36  l0) Tryz.f36 i36 o36 y = m36  l0 y := by kernel_rfl
noncomputable def L36_0 : A36_0 := n36_0   fuel
noncomputable def r36 : F36 := m36  L36_0
theorem k36 : CK Tryz.prog (g36 r36) := by
  have hE : ∀ g f, (E36  L36_0).env.fns g = some f → CallOk Tryz.prog g f := fnsL_ok trivial
  have h0 : LoopOk Tryz.prog Tryz.f36.ntmps (loopAt (bodyOf Tryz.f36) 0) (e36_0 L36_0) := lp_ok (E := E36  L36_0) rfl hE mixed (AllLoops.of_list (l := []) (by kernel_rfl) trivial) (n36_0  ) (fun _ _ _ => rfl) (fun n x y z => t36_0  L36_0 _ x y z) rfl
  exact fnM_ok (E := E36  L36_0) rfl hE mixed (by kernel_rfl) (by kernel_rfl) (AllLoops.of_list (l := [(loopAt (bodyOf Tryz.f36) 0)]) (by kernel_rfl) (.one (by kernel_rfl) h0 trivial)) (s36  L36_0)
@[reducible] def i164 : List Ty := [.v (.sl true .n), .v (.int .i64)]
@[reducible] def o164 : List Ty := [.v (.int .i64), .v (.sl true .n)]
abbrev R164 := Option (PTup o164 × BTup i164)
abbrev F164 := PTup i164 → R164
abbrev g164 (c : F164) : Nat × Tev.Fn := (164, ⟨i164, o164, c, .inp⟩)
@[reducible] def lc164_0 : List Ty := []
@[reducible] def lb164_0 : List Ty := []
@[reducible] def lv164_0 : List Ty := [.v (.int .i64), .v (.int .i64), .v (.sl true .n)]
@[reducible] def lr164_0 : List Ty := []
abbrev R164_0 := Option (Sum (PTup lv164_0) (PTup lr164_0) × BTup lb164_0)
abbrev B164_0 := PTup lb164_0 → PTup lv164_0 → R164_0
abbrev A164_0 := PTup lc164_0 → B164_0
noncomputable def w164_0 (c36 : F36)  (again : B164_0) (x : PTup lc164_0) (y : PTup lb164_0) (z : PTup lv164_0) : R164_0 :=
  bif (ltI z.2.1 (lenI z.2.2.1)) then (bif (leI (0 : Int) z.2.1) then (bif (ltI z.2.1 (lenI z.2.2.1)) then ((c36 ((rdE .n z.2.2.1 z.2.1), (z.1, ()))).bind fun r0 =>
     again () (r0.1.1, ((wI (z.2.1 + (1 : Int))), ((List.set z.2.2.1 (Int.toNat z.2.1) r0.1.2.1), ()))))
    else none)
   else none)
  else some ((Sum.inl z), ())
noncomputable def e164_0 (l : A164_0) : LoopE := ⟨[], lc164_0, [], lb164_0, [1, 5, 0], lv164_0, [], lr164_0, 0, [], l⟩
noncomputable def m164 (c36 : F36) (l0 : A164_0) (y : PTup i164) : Option (PTup o164 × BTup i164) :=
  (l0 () () (y.2.1, ((0 : Int), (y.1, ())))).bind fun r0 =>
  sumElim r0.1 (fun r1 => some ((r1.1, r1.2.2), ()))
  (fun r1 => none)
noncomputable def E164 (c36 : F36) (l0 : A164_0) : CEnv := ⟨⟨Tryz.prog, fnsL [g36 c36]⟩, loopsL [(2, e164_0 l0)]⟩
theorem t164_0 (c36 : F36) (l0 : A164_0) (again) (x y z) : loopRound (E164 c36 l0) (loopAt (bodyOf Tryz.f164) 0) (e164_0 l0) Tryz.f164.ntmps again x y z = w164_0 c36  again x y z := by kernel_rfl
noncomputable def n164_0 (c36 : F36)  : Nat → A164_0
  | 0, _, _, _ => none
  | n + 1, x, y, z => w164_0 c36  (fun y z => n164_0 c36  n x y z) x y z
theorem s164 (c36 : F36) (l0 : A164_0) (y) : tevM (E164 c36 l0) Tryz.f164 i164 o164 y = m164 c36 l0 y := by kernel_rfl
noncomputable def L164_0 : A164_0 := n164_0 r36  fuel
noncomputable def r164 : F164 := m164 r36 L164_0
theorem k164 : CK Tryz.prog (g164 r164) := by
  have hE : ∀ g f, (E164 r36 L164_0).env.fns g = some f → CallOk Tryz.prog g f := fnsL_ok ⟨k36, trivial⟩
  have h0 : LoopOk Tryz.prog Tryz.f164.ntmps (loopAt (bodyOf Tryz.f164) 0) (e164_0 L164_0) := lp_ok (E := E164 r36 L164_0) rfl hE mixed (AllLoops.of_list (l := []) (by kernel_rfl) trivial) (n164_0 r36 ) (fun _ _ _ => rfl) (fun n x y z => t164_0 r36 L164_0 _ x y z) rfl
  exact fnM_ok (E := E164 r36 L164_0) rfl hE mixed (by kernel_rfl) (by kernel_rfl) (AllLoops.of_list (l := [(loopAt (bodyOf Tryz.f164) 0)]) (by kernel_rfl) (.one (by kernel_rfl) h0 trivial)) (s164 r36 L164_0)
@[reducible] def i77 : List Ty := [.a [.sl true .n], .v (.int .i64)]
@[reducible] def o77 : List Ty := [.v (.int .i64), .a [.sl true .n]]
abbrev R77 := Option (PTup o77 × BTup i77)
abbrev F77 := PTup i77 → R77
abbrev g77 (c : F77) : Nat × Tev.Fn := (77, ⟨i77, o77, c, .inp⟩)
noncomputable def m77 (c164 : F164)  (y : PTup i77) : Option (PTup o77 × BTup i77) :=
  (c164 (y.1.1, y.2)).bind fun r0 =>
  some ((r0.1.1, (r0.1.2, ())), ())
noncomputable def E77 (c164 : F164) := mkE [g164 c164]
theorem s77 (c164 : F164)  (y) : tevM (E77 c164 ) Tryz.f77 i77 o77 y = m77 c164  y := by kernel_rfl
noncomputable def r77 : F77 := m77 r164 
theorem k77 : CK Tryz.prog (g77 r77) := by
  exact fnM_ok (E := E77 r164 ) rfl (fnsL_ok ⟨k164, trivial⟩) mixed (by kernel_rfl) (by kernel_rfl) (AllLoops.of_list (l := []) (by kernel_rfl) trivial) (s77 r164 )
@[reducible] def i78 : List Ty := [.a q7, .v (.int .i64)]
@[reducible] def o78 : List Ty := [.v (.int .i64), .a q7]
abbrev R78 := Option (PTup o78 × BTup i78)
abbrev F78 := PTup i78 → R78
abbrev g78 (c : F78) : Nat × Tev.Fn := (78, ⟨i78, o78, c, .inp⟩)
noncomputable def m78 (c36 : F36)  (y : PTup i78) : Option (PTup o78 × BTup i78) :=
  (c36 (y.1.1, y.2)).bind fun r0 =>
  some ((r0.1.1, ((r0.1.2.1, y.1.2), ())), ())
noncomputable def E78 (c36 : F36) := mkE [g36 c36]
theorem s78 (c36 : F36)  (y) : tevM (E78 c36 ) Tryz.f78 i78 o78 y = m78 c36  y := by kernel_rfl
noncomputable def r78 : F78 := m78 r36 
theorem k78 : CK Tryz.prog (g78 r78) := by
  exact fnM_ok (E := E78 r36 ) rfl (fnsL_ok ⟨k36, trivial⟩) mixed (by kernel_rfl) (by kernel_rfl) (AllLoops.of_list (l := []) (by kernel_rfl) trivial) (s78 r36 )
@[reducible] def i100 : List Ty := [.a q10, .v (.int .i64)]
@[reducible] def o100 : List Ty := [.v (.int .i64), .a q10]
abbrev R100 := Option (PTup o100 × BTup i100)
abbrev F100 := PTup i100 → R100
abbrev g100 (c : F100) : Nat × Tev.Fn := (100, ⟨i100, o100, c, .inp⟩)
noncomputable def m100 (c36 : F36)  (y : PTup i100) : Option (PTup o100 × BTup i100) :=
  (c36 (y.1.2.2.2.2.2.2.1, y.2)).bind fun r0 =>
  (c36 (y.1.2.2.2.2.2.2.2.1, (r0.1.1, ()))).bind fun r1 =>
  some ((r1.1.1, ((y.1.1, (y.1.2.1, (y.1.2.2.1, (y.1.2.2.2.1, (y.1.2.2.2.2.1, (y.1.2.2.2.2.2.1, (r0.1.2.1, r1.1.2))))))), ())), ())
noncomputable def E100 (c36 : F36) := mkE [g36 c36]
theorem s100 (c36 : F36)  (y) : tevM (E100 c36 ) Tryz.f100 i100 o100 y = m100 c36  y := by kernel_rfl
noncomputable def r100 : F100 := m100 r36 
theorem k100 : CK Tryz.prog (g100 r100) := by
  exact fnM_ok (E := E100 r36 ) rfl (fnsL_ok ⟨k36, trivial⟩) mixed (by kernel_rfl) (by kernel_rfl) (AllLoops.of_list (l := []) (by kernel_rfl) trivial) (s100 r36 )
@[reducible] def i239 : List Ty := [.v (.sl true .t), .v (.int .i64)]
@[reducible] def o239 : List Ty := [.v (.int .i64), .v (.sl true .t)]
abbrev R239 := Option (PTup o239 × BTup i239)
abbrev F239 := PTup i239 → R239
abbrev g239 (c : F239) : Nat × Tev.Fn := (239, ⟨i239, o239, c, .inp⟩)
@[reducible] def lc239_0 : List Ty := []
@[reducible] def lb239_0 : List Ty := []
@[reducible] def lv239_0 : List Ty := [.v (.int .i64), .v (.int .i64), .v (.sl true .t)]
@[reducible] def lr239_0 : List Ty := []
abbrev R239_0 := Option (Sum (PTup lv239_0) (PTup lr239_0) × BTup lb239_0)
abbrev B239_0 := PTup lb239_0 → PTup lv239_0 → R239_0
abbrev A239_0 := PTup lc239_0 → B239_0
noncomputable def w239_0   (again : B239_0) (x : PTup lc239_0) (y : PTup lb239_0) (z : PTup lv239_0) : R239_0 :=
  bif (ltI z.2.1 (lenI z.2.2.1)) then (bif (leI (0 : Int) z.2.1) then (bif (ltI z.2.1 (lenI z.2.2.1)) then (bif (leI (0 : Int) z.2.1) then (bif (ltI z.2.1 (lenI (List.set z.2.2.1 (Int.toNat z.2.1) (setT (rdE .t z.2.2.1 z.2.1) z.1 ((0 : Nat) + (0 : Nat)))))) then (bif (leI (0 : Int) z.2.1) then (bif (ltI z.2.1 (lenI (List.set (List.set z.2.2.1 (Int.toNat z.2.1) (setT (rdE .t z.2.2.1 z.2.1) z.1 ((0 : Nat) + (0 : Nat)))) (Int.toNat z.2.1) (setT (rdE .t (List.set z.2.2.1 (Int.toNat z.2.1) (setT (rdE .t z.2.2.1 z.2.1) z.1 ((0 : Nat) + (0 : Nat)))) z.2.1) (wI (z.1 + (1 : Int))) ((0 : Nat) + (1 : Nat)))))) then (again () ((wI ((wI ((wI (z.1 + (1 : Int))) + (1 : Int))) + (1 : Int))), ((wI (z.2.1 + (1 : Int))), ((List.set (List.set (List.set z.2.2.1 (Int.toNat z.2.1) (setT (rdE .t z.2.2.1 z.2.1) z.1 ((0 : Nat) + (0 : Nat)))) (Int.toNat z.2.1) (setT (rdE .t (List.set z.2.2.1 (Int.toNat z.2.1) (setT (rdE .t z.2.2.1 z.2.1) z.1 ((0 : Nat) + (0 : Nat)))) z.2.1) (wI (z.1 + (1 : Int))) ((0 : Nat) + (1 : Nat)))) (Int.toNat z.2.1) (setT (rdE .t (List.set (List.set z.2.2.1 (Int.toNat z.2.1) (setT (rdE .t z.2.2.1 z.2.1) z.1 ((0 : Nat) + (0 : Nat)))) (Int.toNat z.2.1) (setT (rdE .t (List.set z.2.2.1 (Int.toNat z.2.1) (setT (rdE .t z.2.2.1 z.2.1) z.1 ((0 : Nat) + (0 : Nat)))) z.2.1) (wI (z.1 + (1 : Int))) ((0 : Nat) + (1 : Nat)))) z.2.1) (wI ((wI (z.1 + (1 : Int))) + (1 : Int))) ((0 : Nat) + (2 : Nat)))), ()))))
        else none)
       else none)
      else none)
     else none)
    else none)
   else none)
  else some ((Sum.inl z), ())
noncomputable def e239_0 (l : A239_0) : LoopE := ⟨[], lc239_0, [], lb239_0, [1, 5, 0], lv239_0, [], lr239_0, 0, [], l⟩
noncomputable def m239  (l0 : A239_0) (y : PTup i239) : Option (PTup o239 × BTup i239) :=
  (l0 () () (y.2.1, ((0 : Int), (y.1, ())))).bind fun r0 =>
  sumElim r0.1 (fun r1 => some ((r1.1, r1.2.2), ()))
  (fun r1 => none)
noncomputable def E239  (l0 : A239_0) : CEnv := ⟨⟨Tryz.prog, fnsL []⟩, loopsL [(2, e239_0 l0)]⟩
theorem t239_0  (l0 : A239_0) (again) (x y z) : loopRound (E239  l0) (loopAt (bodyOf Tryz.f239) 0) (e239_0 l0) Tryz.f239.ntmps again x y z = w239_0   again x y z := by kernel_rfl
noncomputable def n239_0   : Nat → A239_0
  | 0, _, _, _ => none
  | n + 1, x, y, z => w239_0   (fun y z => n239_0   n x y z) x y z
theorem s239  (l0 : A239_0) (y) : tevM (E239  l0) Tryz.f239 i239 o239 y = m239  l0 y := by kernel_rfl
noncomputable def L239_0 : A239_0 := n239_0   fuel
noncomputable def r239 : F239 := m239  L239_0
theorem k239 : CK Tryz.prog (g239 r239) := by
  have hE : ∀ g f, (E239  L239_0).env.fns g = some f → CallOk Tryz.prog g f := fnsL_ok trivial
  have h0 : LoopOk Tryz.prog Tryz.f239.ntmps (loopAt (bodyOf Tryz.f239) 0) (e239_0 L239_0) := lp_ok (E := E239  L239_0) rfl hE mixed (AllLoops.of_list (l := []) (by kernel_rfl) trivial) (n239_0  ) (fun _ _ _ => rfl) (fun n x y z => t239_0  L239_0 _ x y z) rfl
  exact fnM_ok (E := E239  L239_0) rfl hE mixed (by kernel_rfl) (by kernel_rfl) (AllLoops.of_list (l := [(loopAt (bodyOf Tryz.f239) 0)]) (by kernel_rfl) (.one (by kernel_rfl) h0 trivial)) (s239  L239_0)
@[reducible] def i165 : List Ty := [.a [.int .i64, .sl true .t], .v (.int .i64)]
@[reducible] def o165 : List Ty := [.v (.int .i64), .a [.int .i64, .sl true .t]]
abbrev R165 := Option (PTup o165 × BTup i165)
abbrev F165 := PTup i165 → R165
abbrev g165 (c : F165) : Nat × Tev.Fn := (165, ⟨i165, o165, c, .inp⟩)
noncomputable def m165 (c239 : F239)  (y : PTup i165) : Option (PTup o165 × BTup i165) :=
  (c239 (y.1.2.1, y.2)).bind fun r0 =>
  some ((r0.1.1, ((y.1.1, r0.1.2), ())), ())
noncomputable def E165 (c239 : F239) := mkE [g239 c239]
theorem s165 (c239 : F239)  (y) : tevM (E165 c239 ) Tryz.f165 i165 o165 y = m165 c239  y := by kernel_rfl
noncomputable def r165 : F165 := m165 r239 
theorem k165 : CK Tryz.prog (g165 r165) := by
  exact fnM_ok (E := E165 r239 ) rfl (fnsL_ok ⟨k239, trivial⟩) mixed (by kernel_rfl) (by kernel_rfl) (AllLoops.of_list (l := []) (by kernel_rfl) trivial) (s165 r239 )
@[reducible] def i79 : List Ty := [.a [.int .i64, .int .i64, .int .i64, .int .i64, .int .i64, .bool, .sl true .i, .sl true .i, .int .i64, .sl true .t, .sl true .n], .v (.int .i64)]
@[reducible] def o79 : List Ty := [.v (.int .i64), .a [.int .i64, .int .i64, .int .i64, .int .i64, .int .i64, .bool, .sl true .i, .sl true .i, .int .i64, .sl true .t, .sl true .n]]
abbrev R79 := Option (PTup o79 × BTup i79)
abbrev F79 := PTup i79 → R79
abbrev g79 (c : F79) : Nat × Tev.Fn := (79, ⟨i79, o79, c, .inp⟩)
noncomputable def m79 (c164 : F164) (c100 : F100) (c165 : F165)  (y : PTup i79) : Option (PTup o79 × BTup i79) :=
  (c100 ((y.1.1, (y.1.2.1, (y.1.2.2.1, (y.1.2.2.2.1, (y.1.2.2.2.2.1, (y.1.2.2.2.2.2.1, (y.1.2.2.2.2.2.2.1, (y.1.2.2.2.2.2.2.2.1, ())))))))), y.2)).bind fun r0 =>
  (c165 ((y.1.2.2.2.2.2.2.2.2.1, (y.1.2.2.2.2.2.2.2.2.2.1, ())), (r0.1.1, ()))).bind fun r1 =>
  (c164 (y.1.2.2.2.2.2.2.2.2.2.2.1, (r1.1.1, ()))).bind fun r2 =>
  some ((r2.1.1, ((y.1.1, (y.1.2.1, (y.1.2.2.1, (y.1.2.2.2.1, (y.1.2.2.2.2.1, (y.1.2.2.2.2.2.1, (r0.1.2.1.2.2.2.2.2.2.1, (r0.1.2.1.2.2.2.2.2.2.2.1, (y.1.2.2.2.2.2.2.2.2.1, (r1.1.2.1.2.1, r2.1.2)))))))))), ())), ())
noncomputable def E79 (c164 : F164) (c100 : F100) (c165 : F165) := mkE [g164 c164, g100 c100, g165 c165]
theorem s79 (c164 : F164) (c100 : F100) (c165 : F165)  (y) : tevM (E79 c164 c100 c165 ) Tryz.f79 i79 o79 y = m79 c164 c100 c165  y := by kernel_rfl
noncomputable def r79 : F79 := m79 r164 r100 r165 
theorem k79 : CK Tryz.prog (g79 r79) := by
  exact fnM_ok (E := E79 r164 r100 r165 ) rfl (fnsL_ok ⟨k164, k100, k165, trivial⟩) mixed (by kernel_rfl) (by kernel_rfl) (AllLoops.of_list (l := []) (by kernel_rfl) trivial) (s79 r164 r100 r165 )
@[reducible] def i80 : List Ty := [.a [.int .i64, .int .i64, .int .i64, .int .i64, .int .i64, .bool, .bool, .int .i64, .sl true .t, .sl true .i], .v (.int .i64)]
@[reducible] def o80 : List Ty := [.v (.int .i64), .a [.int .i64, .int .i64, .int .i64, .int .i64, .int .i64, .bool, .bool, .int .i64, .sl true .t, .sl true .i]]
abbrev R80 := Option (PTup o80 × BTup i80)
abbrev F80 := PTup i80 → R80
abbrev g80 (c : F80) : Nat × Tev.Fn := (80, ⟨i80, o80, c, .inp⟩)
noncomputable def m80 (c36 : F36) (c165 : F165)  (y : PTup i80) : Option (PTup o80 × BTup i80) :=
  (c165 ((y.1.2.2.2.2.2.2.2.1, (y.1.2.2.2.2.2.2.2.2.1, ())), y.2)).bind fun r0 =>
  (c36 (y.1.2.2.2.2.2.2.2.2.2.1, (r0.1.1, ()))).bind fun r1 =>
  some ((r1.1.1, ((y.1.1, (y.1.2.1, (y.1.2.2.1, (y.1.2.2.2.1, (y.1.2.2.2.2.1, (y.1.2.2.2.2.2.1, (y.1.2.2.2.2.2.2.1, (y.1.2.2.2.2.2.2.2.1, (r0.1.2.1.2.1, r1.1.2))))))))), ())), ())
noncomputable def E80 (c36 : F36) (c165 : F165) := mkE [g36 c36, g165 c165]
theorem s80 (c36 : F36) (c165 : F165)  (y) : tevM (E80 c36 c165 ) Tryz.f80 i80 o80 y = m80 c36 c165  y := by kernel_rfl
noncomputable def r80 : F80 := m80 r36 r165 
theorem k80 : CK Tryz.prog (g80 r80) := by
  exact fnM_ok (E := E80 r36 r165 ) rfl (fnsL_ok ⟨k36, k165, trivial⟩) mixed (by kernel_rfl) (by kernel_rfl) (AllLoops.of_list (l := []) (by kernel_rfl) trivial) (s80 r36 r165 )
@[reducible] def i20 : List Ty := [.a [.sl true .n, .sl true .i, .sl true .i, .int .i64, .int .i64, .int .i64, .int .i64, .int .i64, .bool, .bool, .bool, .bool, .bool, .int .i64, .int .i64, .bool, .int .i64, .bool, .int .i64, .int .i64, .sl true .i, .int .i64, .int .i64, .int .i64, .int .i64, .int .i64, .bool, .sl true .i, .sl true .i, .int .i64, .sl true .t, .sl true .n, .int .i64, .int .i64, .int .i64, .int .i64, .int .i64, .bool, .bool, .int .i64, .sl true .t, .sl true .i], .v (.int .i64)]
@[reducible] def o20 : List Ty := [.v (.int .i64), .a [.sl true .n, .sl true .i, .sl true .i, .int .i64, .int .i64, .int .i64, .int .i64, .int .i64, .bool, .bool, .bool, .bool, .bool, .int .i64, .int .i64, .bool, .int .i64, .bool, .int .i64, .int .i64, .sl true .i, .int .i64, .int .i64, .int .i64, .int .i64, .int .i64, .bool, .sl true .i, .sl true .i, .int .i64, .sl true .t, .sl true .n, .int .i64, .int .i64, .int .i64, .int .i64, .int .i64, .bool, .bool, .int .i64, .sl true .t, .sl true .i]]
abbrev R20 := Option (PTup o20 × BTup i20)
abbrev F20 := PTup i20 → R20
abbrev g20 (c : F20) : Nat × Tev.Fn := (20, ⟨i20, o20, c, .inp⟩)
noncomputable def m20 (c77 : F77) (c36 : F36) (c78 : F78) (c79 : F79) (c80 : F80)  (y : PTup i20) : Option (PTup o20 × BTup i20) :=
  let a0 := y.1; let a1 := a0.2; let a2 := a1.2; let a3 := a2.2; let a4 := a3.2; let a5 := a4.2; let a6 := a5.2; let a7 := a6.2; let a8 := a7.2; let a9 := a8.2; let a10 := a9.2; let a11 := a10.2; let a12 := a11.2; let a13 := a12.2; let a14 := a13.2; let a15 := a14.2; let a16 := a15.2; let a17 := a16.2; let a18 := a17.2; let a19 := a18.2; let a20 := a19.2; let a21 := a20.2; let a22 := a21.2; let a23 := a22.2; let a24 := a23.2; let a25 := a24.2; let a26 := a25.2; let a27 := a26.2; let a28 := a27.2; let a29 := a28.2; let a30 := a29.2; let a31 := a30.2; let a32 := a31.2.2; let a33 := a32.2.2.2; (c77 ((a0.1, ()), y.2)).bind fun r0 =>
  (c36 (a1.1, (r0.1.1, ()))).bind fun r1 =>
  (c78 ((a2.1, (a3.1, ())), (r1.1.1, ()))).bind fun r2 =>
  (c36 (a20.1, (r2.1.1, ()))).bind fun r3 =>
  (c79 ((a21.1, (a22.1, (a23.1, (a24.1, (a25.1, (a26.1, (a27.1, (a28.1, (a29.1, (a30.1, (a31.1, ()))))))))))), (r3.1.1, ()))).bind fun r4 =>
  (c80 (a31.2, (r4.1.1, ()))).bind fun r5 =>
  some ((r5.1.1, ((r0.1.2.1.1, (r1.1.2.1, (r2.1.2.1.1, (a3.1, (a4.1, (a5.1, (a6.1, (a7.1, (a8.1, (a9.1, (a10.1, (a11.1, (a12.1, (a13.1, (a14.1, (a15.1, (a16.1, (a17.1, (a18.1, (a19.1, (r3.1.2.1, (a21.1, (a22.1, (a23.1, (a24.1, (a25.1, (a26.1, (r4.1.2.1.2.2.2.2.2.2.1, (r4.1.2.1.2.2.2.2.2.2.2.1, (a29.1, (r4.1.2.1.2.2.2.2.2.2.2.2.2.1, (r4.1.2.1.2.2.2.2.2.2.2.2.2.2.1, (a31.2.1, (a32.1, (a32.2.1, (a32.2.2.1, (a33.1, (a33.2.1, (a33.2.2.1, (a33.2.2.2.1, r5.1.2.1.2.2.2.2.2.2.2.2)))))))))))))))))))))))))))))))))))))))), ())), ())
noncomputable def E20 (c77 : F77) (c36 : F36) (c78 : F78) (c79 : F79) (c80 : F80) := mkE [g77 c77, g36 c36, g78 c78, g79 c79, g80 c80]
theorem s20 (c77 : F77) (c36 : F36) (c78 : F78) (c79 : F79) (c80 : F80)  (y) : tevM (E20 c77 c36 c78 c79 c80 ) Tryz.f20 i20 o20 y = m20 c77 c36 c78 c79 c80  y := by kernel_rfl
noncomputable def r20 : F20 := m20 r77 r36 r78 r79 r80 
theorem k20 : CK Tryz.prog (g20 r20) := by
  exact fnM_ok (E := E20 r77 r36 r78 r79 r80 ) rfl (fnsL_ok ⟨k77, k36, k78, k79, k80, trivial⟩) mixed (by kernel_rfl) (by kernel_rfl) (AllLoops.of_list (l := []) (by kernel_rfl) trivial) (s20 r77 r36 r78 r79 r80 )
@[reducible] def i37 : List Ty := [.v (.sl false .i), .v (.int .i64)]
@[reducible] def o37 : List Ty := [.v (.int .i64)]
abbrev R37 := Option (PTup o37 × BTup i37)
abbrev F37 := PTup i37 → R37
abbrev g37 (c : F37) : Nat × Tev.Fn := (37, ⟨i37, o37, c, .nor⟩)
@[reducible] def lc37_0 : List Ty := [.v (.sl false .i)]
@[reducible] def lb37_0 : List Ty := []
@[reducible] def lv37_0 : List Ty := [.v (.int .i64), .v (.int .i64)]
@[reducible] def lr37_0 : List Ty := [.v (.int .i64)]
abbrev R37_0 := Option (Sum (PTup lv37_0) (PTup lr37_0) × BTup lb37_0)
abbrev B37_0 := PTup lb37_0 → PTup lv37_0 → R37_0
abbrev A37_0 := PTup lc37_0 → B37_0
noncomputable def w37_0   (again : B37_0) (x : PTup lc37_0) (y : PTup lb37_0) (z : PTup lv37_0) : R37_0 :=
  bif (ltI z.2.1 (lenI x.1)) then (bif (leI (0 : Int) z.2.1) then (bif (ltI z.2.1 (lenI x.1)) then (bif (neI (rdE .i x.1 z.2.1) z.1) then (some ((Sum.inr ((-(1 : Int)), ())), ()))
     else again () ((wI (z.1 + (1 : Int))), ((wI (z.2.1 + (1 : Int))), ())))
    else none)
   else none)
  else some ((Sum.inl z), ())
noncomputable def e37_0 (l : A37_0) : LoopE := ⟨[0], lc37_0, [], lb37_0, [1, 5], lv37_0, [4], lr37_0, 0, [], l⟩
noncomputable def m37  (l0 : A37_0) (y : PTup i37) : Option (PTup o37 × BTup i37) :=
  (l0 (y.1, ()) () (y.2.1, ((0 : Int), ()))).bind fun r0 =>
  sumElim r0.1 (fun r1 => some ((r1.1, ()), ()))
  (fun r1 => some (r1, ()))
noncomputable def E37  (l0 : A37_0) : CEnv := ⟨⟨Tryz.prog, fnsL []⟩, loopsL [(2, e37_0 l0)]⟩
theorem t37_0  (l0 : A37_0) (again) (x y z) : loopRound (E37  l0) (loopAt (bodyOf Tryz.f37) 0) (e37_0 l0) Tryz.f37.ntmps again x y z = w37_0   again x y z := by kernel_rfl
noncomputable def n37_0   : Nat → A37_0
  | 0, _, _, _ => none
  | n + 1, x, y, z => w37_0   (fun y z => n37_0   n x y z) x y z
theorem s37  (l0 : A37_0) (y) : tevF (E37  l0) Tryz.f37 i37 o37 y = m37  l0 y := by kernel_rfl
noncomputable def L37_0 : A37_0 := n37_0   fuel
noncomputable def r37 : F37 := m37  L37_0
theorem k37 : CK Tryz.prog (g37 r37) := by
  have hE : ∀ g f, (E37  L37_0).env.fns g = some f → CallOk Tryz.prog g f := fnsL_ok trivial
  have h0 : LoopOk Tryz.prog Tryz.f37.ntmps (loopAt (bodyOf Tryz.f37) 0) (e37_0 L37_0) := lp_ok (E := E37  L37_0) rfl hE mixed (AllLoops.of_list (l := []) (by kernel_rfl) trivial) (n37_0  ) (fun _ _ _ => rfl) (fun n x y z => t37_0  L37_0 _ x y z) rfl
  exact fn_ok (E := E37  L37_0) rfl hE mixed (by kernel_rfl) (by kernel_rfl) (AllLoops.of_list (l := [(loopAt (bodyOf Tryz.f37) 0)]) (by kernel_rfl) (.one (by kernel_rfl) h0 trivial)) (s37  L37_0)
@[reducible] def i166 : List Ty := [.v (.sl false .n), .v (.int .i64)]
@[reducible] def o166 : List Ty := [.v (.int .i64)]
abbrev R166 := Option (PTup o166 × BTup i166)
abbrev F166 := PTup i166 → R166
abbrev g166 (c : F166) : Nat × Tev.Fn := (166, ⟨i166, o166, c, .nor⟩)
@[reducible] def lc166_0 : List Ty := [.v (.sl false .n)]
@[reducible] def lb166_0 : List Ty := []
@[reducible] def lv166_0 : List Ty := [.v (.int .i64), .v (.int .i64)]
@[reducible] def lr166_0 : List Ty := [.v (.int .i64)]
abbrev R166_0 := Option (Sum (PTup lv166_0) (PTup lr166_0) × BTup lb166_0)
abbrev B166_0 := PTup lb166_0 → PTup lv166_0 → R166_0
abbrev A166_0 := PTup lc166_0 → B166_0
noncomputable def w166_0 (c37 : F37)  (again : B166_0) (x : PTup lc166_0) (y : PTup lb166_0) (z : PTup lv166_0) : R166_0 :=
  bif (ltI z.2.1 (lenI x.1)) then (bif (leI (0 : Int) z.2.1) then (bif (ltI z.2.1 (lenI x.1)) then ((c37 ((rdE .n x.1 z.2.1), (z.1, ()))).bind fun r0 =>
     bif (ltI r0.1.1 (0 : Int)) then (some ((Sum.inr ((-(1 : Int)), ())), ()))
     else again () (r0.1.1, ((wI (z.2.1 + (1 : Int))), ())))
    else none)
   else none)
  else some ((Sum.inl z), ())
noncomputable def e166_0 (l : A166_0) : LoopE := ⟨[0], lc166_0, [], lb166_0, [1, 5], lv166_0, [4], lr166_0, 0, [], l⟩
noncomputable def m166 (c37 : F37) (l0 : A166_0) (y : PTup i166) : Option (PTup o166 × BTup i166) :=
  (l0 (y.1, ()) () (y.2.1, ((0 : Int), ()))).bind fun r0 =>
  sumElim r0.1 (fun r1 => some ((r1.1, ()), ()))
  (fun r1 => some (r1, ()))
noncomputable def E166 (c37 : F37) (l0 : A166_0) : CEnv := ⟨⟨Tryz.prog, fnsL [g37 c37]⟩, loopsL [(2, e166_0 l0)]⟩
theorem t166_0 (c37 : F37) (l0 : A166_0) (again) (x y z) : loopRound (E166 c37 l0) (loopAt (bodyOf Tryz.f166) 0) (e166_0 l0) Tryz.f166.ntmps again x y z = w166_0 c37  again x y z := by kernel_rfl
noncomputable def n166_0 (c37 : F37)  : Nat → A166_0
  | 0, _, _, _ => none
  | n + 1, x, y, z => w166_0 c37  (fun y z => n166_0 c37  n x y z) x y z
theorem s166 (c37 : F37) (l0 : A166_0) (y) : tevF (E166 c37 l0) Tryz.f166 i166 o166 y = m166 c37 l0 y := by kernel_rfl
noncomputable def L166_0 : A166_0 := n166_0 r37  fuel
noncomputable def r166 : F166 := m166 r37 L166_0
theorem k166 : CK Tryz.prog (g166 r166) := by
  have hE : ∀ g f, (E166 r37 L166_0).env.fns g = some f → CallOk Tryz.prog g f := fnsL_ok ⟨k37, trivial⟩
  have h0 : LoopOk Tryz.prog Tryz.f166.ntmps (loopAt (bodyOf Tryz.f166) 0) (e166_0 L166_0) := lp_ok (E := E166 r37 L166_0) rfl hE mixed (AllLoops.of_list (l := []) (by kernel_rfl) trivial) (n166_0 r37 ) (fun _ _ _ => rfl) (fun n x y z => t166_0 r37 L166_0 _ x y z) rfl
  exact fn_ok (E := E166 r37 L166_0) rfl hE mixed (by kernel_rfl) (by kernel_rfl) (AllLoops.of_list (l := [(loopAt (bodyOf Tryz.f166) 0)]) (by kernel_rfl) (.one (by kernel_rfl) h0 trivial)) (s166 r37 L166_0)
@[reducible] def i81 : List Ty := [.a q0, .v (.int .i64)]
@[reducible] def o81 : List Ty := [.v (.int .i64)]
abbrev R81 := Option (PTup o81 × BTup i81)
abbrev F81 := PTup i81 → R81
abbrev g81 (c : F81) : Nat × Tev.Fn := (81, ⟨i81, o81, c, .nor⟩)
noncomputable def m81 (c166 : F166)  (y : PTup i81) : Option (PTup o81 × BTup i81) :=
  (c166 (y.1.1, y.2)).bind fun r0 =>
  bif (ltI r0.1.1 (0 : Int)) then (some (((-(1 : Int)), ()), ()))
  else some (r0.1, ())
noncomputable def E81 (c166 : F166) := mkE [g166 c166]
theorem s81 (c166 : F166)  (y) : tevF (E81 c166 ) Tryz.f81 i81 o81 y = m81 c166  y := by kernel_rfl
noncomputable def r81 : F81 := m81 r166 
theorem k81 : CK Tryz.prog (g81 r81) := fn0 (s81 r166) (fnsL_ok ⟨k166, trivial⟩) rfl mixed (by kernel_rfl) (by kernel_rfl) (by kernel_rfl)
@[reducible] def i82 : List Ty := [.a q1, .v (.int .i64)]
@[reducible] def o82 : List Ty := [.v (.int .i64)]
abbrev R82 := Option (PTup o82 × BTup i82)
abbrev F82 := PTup i82 → R82
abbrev g82 (c : F82) : Nat × Tev.Fn := (82, ⟨i82, o82, c, .nor⟩)
noncomputable def m82 (c37 : F37)  (y : PTup i82) : Option (PTup o82 × BTup i82) :=
  (c37 (y.1.1, y.2)).bind fun r0 =>
  bif (ltI r0.1.1 (0 : Int)) then (some (((-(1 : Int)), ()), ()))
  else some (r0.1, ())
noncomputable def E82 (c37 : F37) := mkE [g37 c37]
theorem s82 (c37 : F37)  (y) : tevF (E82 c37 ) Tryz.f82 i82 o82 y = m82 c37  y := by kernel_rfl
noncomputable def r82 : F82 := m82 r37 
theorem k82 : CK Tryz.prog (g82 r82) := fn0 (s82 r37) (fnsL_ok ⟨k37, trivial⟩) rfl mixed (by kernel_rfl) (by kernel_rfl) (by kernel_rfl)
@[reducible] def i102 : List Ty := [.a q2, .v (.int .i64)]
@[reducible] def o102 : List Ty := [.v (.int .i64)]
abbrev R102 := Option (PTup o102 × BTup i102)
abbrev F102 := PTup i102 → R102
abbrev g102 (c : F102) : Nat × Tev.Fn := (102, ⟨i102, o102, c, .nor⟩)
noncomputable def m102 (c37 : F37)  (y : PTup i102) : Option (PTup o102 × BTup i102) :=
  (c37 (y.1.2.2.2.2.2.2.1, y.2)).bind fun r0 =>
  bif (ltI r0.1.1 (0 : Int)) then (some (((-(1 : Int)), ()), ()))
  else (c37 (y.1.2.2.2.2.2.2.2.1, r0.1)).bind fun r1 =>
  bif (ltI r1.1.1 (0 : Int)) then (some (((-(1 : Int)), ()), ()))
  else some (r1.1, ())
noncomputable def E102 (c37 : F37) := mkE [g37 c37]
theorem s102 (c37 : F37)  (y) : tevF (E102 c37 ) Tryz.f102 i102 o102 y = m102 c37  y := by kernel_rfl
noncomputable def r102 : F102 := m102 r37 
theorem k102 : CK Tryz.prog (g102 r102) := fn0 (s102 r37) (fnsL_ok ⟨k37, trivial⟩) rfl mixed (by kernel_rfl) (by kernel_rfl) (by kernel_rfl)
@[reducible] def i99 : List Ty := [.a [.sl false .n, .sl false .i, .sl false .i], .a [.sl false .n, .sl false .i, .sl false .i]]
@[reducible] def o99 : List Ty := [.v (.bool)]
abbrev R99 := Option (PTup o99 × BTup i99)
abbrev F99 := PTup i99 → R99
abbrev g99 (c : F99) : Nat × Tev.Fn := (99, ⟨i99, o99, c, .nor⟩)
noncomputable def m99 (c35 : F35) (c162 : F162)  (y : PTup i99) : Option (PTup o99 × BTup i99) :=
  (c162 (y.1.1, (y.2.1.1, ()))).bind fun r0 =>
  bif (!r0.1.1) then (some ((false, ()), ()))
  else (c35 (y.1.2.1, (y.2.1.2.1, ()))).bind fun r1 =>
  bif (!r1.1.1) then (some ((false, ()), ()))
  else (c35 (y.1.2.2.1, y.2.1.2.2)).bind fun r2 =>
  bif (!r2.1.1) then (some ((false, ()), ()))
  else some ((true, ()), ())
noncomputable def E99 (c35 : F35) (c162 : F162) := mkE [g35 c35, g162 c162]
theorem s99 (c35 : F35) (c162 : F162)  (y) : tevF (E99 c35 c162 ) Tryz.f99 i99 o99 y = m99 c35 c162  y := by kernel_rfl
noncomputable def r99 : F99 := m99 r35 r162 
theorem k99 : CK Tryz.prog (g99 r99) := fn0 (s99 r35 r162) (fnsL_ok ⟨k35, k162, trivial⟩) rfl mixed (by kernel_rfl) (by kernel_rfl) (by kernel_rfl)
@[reducible] def i26 : List Ty := [.a q13, .a q13]
@[reducible] def o26 : List Ty := [.v (.bool)]
abbrev R26 := Option (PTup o26 × BTup i26)
abbrev F26 := PTup i26 → R26
abbrev g26 (c : F26) : Nat × Tev.Fn := (26, ⟨i26, o26, c, .nor⟩)
noncomputable def m26 (c98 : F98) (c73 : F73) (c71 : F71) (c35 : F35) (c72 : F72) (c99 : F99) (c74 : F74) (c97 : F97)  (y : PTup i26) : Option (PTup o26 × BTup i26) :=
  let a0 := y.1; let a1 := y.2; let a2 := a0.2; let a3 := a1.1; let a4 := a2.2; let a5 := a3.2; let a6 := a4.2; let a7 := a5.2; let a8 := a6.2; let a9 := a7.2; let a10 := a8.2; let a11 := a9.2; let a12 := a10.2; let a13 := a11.2; let a14 := a12.2; let a15 := a13.2; let a16 := a14.2; let a17 := a15.2; let a18 := a16.2; let a19 := a17.2; let a20 := a18.2; let a21 := a19.2; let a22 := a20.2; let a23 := a21.2; let a24 := a22.2; let a25 := a23.2; let a26 := a24.2; let a27 := a25.2; let a28 := a26.2; let a29 := a27.2; let a30 := a28.2; let a31 := a29.2; let a32 := a30.2; let a33 := a31.2; let a34 := a32.2; let a35 := a33.2; let a36 := a34.2; let a37 := a35.2; let a38 := a36.2; let a39 := a37.2; let a40 := a38.2; let a41 := a39.2; let a42 := a40.2; let a43 := a41.2; let a44 := a42.2; let a45 := a43.2; let a46 := a45.2; let a47 := a44.2.2; let a48 := a46.2.2; let a49 := a47.2.2; let a50 := a48.2.2; (c71 ((a0.1, ()), ((a3.1, ()), ()))).bind fun r0 =>
  bif (!r0.1.1) then (some ((false, ()), ()))
  else (c35 (a2.1, (a5.1, ()))).bind fun r1 =>
  bif (!r1.1.1) then (some ((false, ()), ()))
  else (c72 ((a4.1, (a6.1, ())), ((a7.1, (a9.1, ())), ()))).bind fun r2 =>
  bif (!r2.1.1) then (some ((false, ()), ()))
  else (c73 ((a8.1, (a10.1, (a12.1, (a14.1, (a16.1, (a18.1, (a20.1, (a22.1, ())))))))), ((a11.1, (a13.1, (a15.1, (a17.1, (a19.1, (a21.1, (a23.1, (a25.1, ())))))))), ()))).bind fun r3 =>
  bif (!r3.1.1) then (some ((false, ()), ()))
  else (c97 ((a24.1, (a26.1, (a28.1, (a30.1, (a32.1, (a34.1, (a36.1, (a38.1, ())))))))), ((a27.1, (a29.1, (a31.1, (a33.1, (a35.1, (a37.1, (a39.1, (a41.1, ())))))))), ()))).bind fun r4 =>
  bif (!r4.1.1) then (some ((false, ()), ()))
  else (c98 ((a40.1, (a42.1, (a44.1, (a44.2.1, (a47.1, (a47.2.1, (a49.1, ()))))))), ((a43.1, (a45.1, (a46.1, (a46.2.1, (a48.1, (a48.2.1, (a50.1, ()))))))), ()))).bind fun r5 =>
  bif (!r5.1.1) then (some ((false, ()), ()))
  else (c74 ((a49.2.1, (a49.2.2.1, ())), ((a50.2.1, (a50.2.2.1, ())), ()))).bind fun r6 =>
  bif (!r6.1.1) then (some ((false, ()), ()))
  else bif (!(a49.2.2.2.1 == a50.2.2.2.1)) then (some ((false, ()), ()))
  else bif (neI a49.2.2.2.2.1 a50.2.2.2.2.1) then (some ((false, ()), ()))
  else (c99 (a49.2.2.2.2.2, (a50.2.2.2.2.2, ()))).bind fun r7 =>
  bif (!r7.1.1) then (some ((false, ()), ()))
  else some ((true, ()), ())
noncomputable def E26 (c98 : F98) (c73 : F73) (c71 : F71) (c35 : F35) (c72 : F72) (c99 : F99) (c74 : F74) (c97 : F97) := mkE [g98 c98, g73 c73, g71 c71, g35 c35, g72 c72, g99 c99, g74 c74, g97 c97]
theorem s26 (c98 : F98) (c73 : F73) (c71 : F71) (c35 : F35) (c72 : F72) (c99 : F99) (c74 : F74) (c97 : F97)  (y) : tevF (E26 c98 c73 c71 c35 c72 c99 c74 c97 ) Tryz.f26 i26 o26 y = m26 c98 c73 c71 c35 c72 c99 c74 c97  y := by kernel_rfl
noncomputable def r26 : F26 := m26 r98 r73 r71 r35 r72 r99 r74 r97 
theorem k26 : CK Tryz.prog (g26 r26) := fn0 (s26 r98 r73 r71 r35 r72 r99 r74 r97) (fnsL_ok ⟨k98, k73, k71, k35, k72, k99, k74, k97, trivial⟩) rfl mixed (by kernel_rfl) (by kernel_rfl) (by kernel_rfl)
@[reducible] def i101 : List Ty := [.a [.sl true .n, .sl true .i, .sl true .i], .v (.int .i64)]
@[reducible] def o101 : List Ty := [.v (.int .i64), .a [.sl true .n, .sl true .i, .sl true .i]]
abbrev R101 := Option (PTup o101 × BTup i101)
abbrev F101 := PTup i101 → R101
abbrev g101 (c : F101) : Nat × Tev.Fn := (101, ⟨i101, o101, c, .inp⟩)
noncomputable def m101 (c36 : F36) (c164 : F164)  (y : PTup i101) : Option (PTup o101 × BTup i101) :=
  (c164 (y.1.1, y.2)).bind fun r0 =>
  (c36 (y.1.2.1, (r0.1.1, ()))).bind fun r1 =>
  (c36 (y.1.2.2.1, (r1.1.1, ()))).bind fun r2 =>
  some ((r2.1.1, ((r0.1.2.1, (r1.1.2.1, r2.1.2)), ())), ())
noncomputable def E101 (c36 : F36) (c164 : F164) := mkE [g36 c36, g164 c164]
theorem s101 (c36 : F36) (c164 : F164)  (y) : tevM (E101 c36 c164 ) Tryz.f101 i101 o101 y = m101 c36 c164  y := by kernel_rfl
noncomputable def r101 : F101 := m101 r36 r164 
theorem k101 : CK Tryz.prog (g101 r101) := by
  exact fnM_ok (E := E101 r36 r164 ) rfl (fnsL_ok ⟨k36, k164, trivial⟩) mixed (by kernel_rfl) (by kernel_rfl) (AllLoops.of_list (l := []) (by kernel_rfl) trivial) (s101 r36 r164 )
@[reducible] def i27 : List Ty := [.a q14, .v (.int .i64)]
@[reducible] def o27 : List Ty := [.v (.int .i64), .a q14]
abbrev R27 := Option (PTup o27 × BTup i27)
abbrev F27 := PTup i27 → R27
abbrev g27 (c : F27) : Nat × Tev.Fn := (27, ⟨i27, o27, c, .inp⟩)
noncomputable def m27 (c77 : F77) (c36 : F36) (c78 : F78) (c101 : F101) (c100 : F100)  (y : PTup i27) : Option (PTup o27 × BTup i27) :=
  let a0 := y.1; let a1 := a0.2; let a2 := a1.2; let a3 := a2.2; let a4 := a3.2; let a5 := a4.2; let a6 := a5.2; let a7 := a6.2; let a8 := a7.2; let a9 := a8.2; let a10 := a9.2; let a11 := a10.2; let a12 := a11.2; let a13 := a12.2; let a14 := a13.2; let a15 := a14.2; let a16 := a15.2; let a17 := a16.2; let a18 := a17.2; let a19 := a18.2; let a20 := a19.2; let a21 := a20.2; let a22 := a21.2; let a23 := a22.2.2; let a24 := a23.2.2; (c77 ((a0.1, ()), y.2)).bind fun r0 =>
  (c36 (a1.1, (r0.1.1, ()))).bind fun r1 =>
  (c78 ((a2.1, (a3.1, ())), (r1.1.1, ()))).bind fun r2 =>
  (c100 ((a12.1, (a13.1, (a14.1, (a15.1, (a16.1, (a17.1, (a18.1, (a19.1, ())))))))), (r2.1.1, ()))).bind fun r3 =>
  (c101 (a24.2.2.2.2.2, (r3.1.1, ()))).bind fun r4 =>
  some ((r4.1.1, ((r0.1.2.1.1, (r1.1.2.1, (r2.1.2.1.1, (a3.1, (a4.1, (a5.1, (a6.1, (a7.1, (a8.1, (a9.1, (a10.1, (a11.1, (a12.1, (a13.1, (a14.1, (a15.1, (a16.1, (a17.1, (r3.1.2.1.2.2.2.2.2.2.1, (r3.1.2.1.2.2.2.2.2.2.2.1, (a20.1, (a21.1, (a22.1, (a22.2.1, (a23.1, (a23.2.1, (a24.1, (a24.2.1, (a24.2.2.1, (a24.2.2.2.1, (a24.2.2.2.2.1, r4.1.2.1))))))))))))))))))))))))))))))), ())), ())
noncomputable def E27 (c77 : F77) (c36 : F36) (c78 : F78) (c101 : F101) (c100 : F100) := mkE [g77 c77, g36 c36, g78 c78, g101 c101, g100 c100]
theorem s27 (c77 : F77) (c36 : F36) (c78 : F78) (c101 : F101) (c100 : F100)  (y) : tevM (E27 c77 c36 c78 c101 c100 ) Tryz.f27 i27 o27 y = m27 c77 c36 c78 c101 c100  y := by kernel_rfl
noncomputable def r27 : F27 := m27 r77 r36 r78 r101 r100 
theorem k27 : CK Tryz.prog (g27 r27) := by
  exact fnM_ok (E := E27 r77 r36 r78 r101 r100 ) rfl (fnsL_ok ⟨k77, k36, k78, k101, k100, trivial⟩) mixed (by kernel_rfl) (by kernel_rfl) (AllLoops.of_list (l := []) (by kernel_rfl) trivial) (s27 r77 r36 r78 r101 r100 )
@[reducible] def i103 : List Ty := [.a [.sl false .n, .sl false .i, .sl false .i], .v (.int .i64)]
@[reducible] def o103 : List Ty := [.v (.int .i64)]
abbrev R103 := Option (PTup o103 × BTup i103)
abbrev F103 := PTup i103 → R103
abbrev g103 (c : F103) : Nat × Tev.Fn := (103, ⟨i103, o103, c, .nor⟩)
noncomputable def m103 (c37 : F37) (c166 : F166)  (y : PTup i103) : Option (PTup o103 × BTup i103) :=
  (c166 (y.1.1, y.2)).bind fun r0 =>
  bif (ltI r0.1.1 (0 : Int)) then (some (((-(1 : Int)), ()), ()))
  else (c37 (y.1.2.1, r0.1)).bind fun r1 =>
  bif (ltI r1.1.1 (0 : Int)) then (some (((-(1 : Int)), ()), ()))
  else (c37 (y.1.2.2.1, r1.1)).bind fun r2 =>
  bif (ltI r2.1.1 (0 : Int)) then (some (((-(1 : Int)), ()), ()))
  else some (r2.1, ())
noncomputable def E103 (c37 : F37) (c166 : F166) := mkE [g37 c37, g166 c166]
theorem s103 (c37 : F37) (c166 : F166)  (y) : tevF (E103 c37 c166 ) Tryz.f103 i103 o103 y = m103 c37 c166  y := by kernel_rfl
noncomputable def r103 : F103 := m103 r37 r166 
theorem k103 : CK Tryz.prog (g103 r103) := fn0 (s103 r37 r166) (fnsL_ok ⟨k37, k166, trivial⟩) rfl mixed (by kernel_rfl) (by kernel_rfl) (by kernel_rfl)
@[reducible] def i28 : List Ty := [.a q13, .v (.int .i64)]
@[reducible] def o28 : List Ty := [.v (.int .i64)]
abbrev R28 := Option (PTup o28 × BTup i28)
abbrev F28 := PTup i28 → R28
abbrev g28 (c : F28) : Nat × Tev.Fn := (28, ⟨i28, o28, c, .nor⟩)
noncomputable def m28 (c81 : F81) (c37 : F37) (c82 : F82) (c103 : F103) (c102 : F102)  (y : PTup i28) : Option (PTup o28 × BTup i28) :=
  (c81 ((y.1.1, ()), y.2)).bind fun r0 =>
  bif (ltI r0.1.1 (0 : Int)) then (some (((-(1 : Int)), ()), ()))
  else (c37 (y.1.2.1, r0.1)).bind fun r1 =>
  bif (ltI r1.1.1 (0 : Int)) then (some (((-(1 : Int)), ()), ()))
  else (c82 ((y.1.2.2.1, (y.1.2.2.2.1, ())), r1.1)).bind fun r2 =>
  bif (ltI r2.1.1 (0 : Int)) then (some (((-(1 : Int)), ()), ()))
  else (c102 ((y.1.2.2.2.2.2.2.2.2.2.2.2.2.1, (y.1.2.2.2.2.2.2.2.2.2.2.2.2.2.1, (y.1.2.2.2.2.2.2.2.2.2.2.2.2.2.2.1, (y.1.2.2.2.2.2.2.2.2.2.2.2.2.2.2.2.1, (y.1.2.2.2.2.2.2.2.2.2.2.2.2.2.2.2.2.1, (y.1.2.2.2.2.2.2.2.2.2.2.2.2.2.2.2.2.2.1, (y.1.2.2.2.2.2.2.2.2.2.2.2.2.2.2.2.2.2.2.1, (y.1.2.2.2.2.2.2.2.2.2.2.2.2.2.2.2.2.2.2.2.1, ())))))))), r2.1)).bind fun r3 =>
  bif (ltI r3.1.1 (0 : Int)) then (some (((-(1 : Int)), ()), ()))
  else (c103 (y.1.2.2.2.2.2.2.2.2.2.2.2.2.2.2.2.2.2.2.2.2.2.2.2.2.2.2.2.2.2.2.2, r3.1)).bind fun r4 =>
  bif (ltI r4.1.1 (0 : Int)) then (some (((-(1 : Int)), ()), ()))
  else some (r4.1, ())
noncomputable def E28 (c81 : F81) (c37 : F37) (c82 : F82) (c103 : F103) (c102 : F102) := mkE [g81 c81, g37 c37, g82 c82, g103 c103, g102 c102]
theorem s28 (c81 : F81) (c37 : F37) (c82 : F82) (c103 : F103) (c102 : F102)  (y) : tevF (E28 c81 c37 c82 c103 c102 ) Tryz.f28 i28 o28 y = m28 c81 c37 c82 c103 c102  y := by kernel_rfl
noncomputable def r28 : F28 := m28 r81 r37 r82 r103 r102 
theorem k28 : CK Tryz.prog (g28 r28) := fn0 (s28 r81 r37 r82 r103 r102) (fnsL_ok ⟨k81, k37, k82, k103, k102, trivial⟩) rfl mixed (by kernel_rfl) (by kernel_rfl) (by kernel_rfl)
@[reducible] def i6 : List Ty := [.a q6]
@[reducible] def o6 : List Ty := [.v (.bool)]
abbrev R6 := Option (PTup o6 × BTup i6)
abbrev F6 := PTup i6 → R6
abbrev g6 (c : F6) : Nat × Tev.Fn := (6, ⟨i6, o6, c, .nor⟩)
noncomputable def m6 (c32 : F32) (c26 : F26) (c19 : F19) (c28 : F28) (c27 : F27) (c20 : F20) (c15 : F15) (c17 : F17) (c31 : F31)  (y : PTup i6) : Option (PTup o6 × BTup i6) :=
  (c15 (y.1, ((1048576 : Int), ()))).bind fun r0 =>
  bif (ltI r0.1.1 (0 : Int)) then (some ((true, ()), ()))
  else (c17 (y.1, ())).bind fun r1 =>
  (c31 (r1.1.1, ())).bind fun r2 =>
  (c17 (y.1, ())).bind fun r3 =>
  (c32 (r3.1.1, ())).bind fun r4 => let h0 := r4.1; let h1 := h0.1; let h2 := h1.2; let h3 := h2.2; let h4 := h3.2; let h5 := h4.2; let h6 := h5.2; let h7 := h6.2; let h8 := h7.2; let h9 := h8.2; let h10 := h9.2; let h11 := h10.2; let h12 := h11.2; let h13 := h12.2; let h14 := h13.2; let h15 := h14.2; let h16 := h15.2; let h17 := h16.2; let h18 := h17.2; let h19 := h18.2; let h20 := h19.2; let h21 := h20.2; let h22 := h21.2; let h23 := h22.2; let h24 := h23.2; let h25 := h24.2; let h26 := h25.2; let h27 := h26.2; let h28 := h27.2.2; (c26 (h1, (r2.1.1, ()))).bind fun r5 =>
  bif (!r5.1.1) then (some ((false, ()), ()))
  else (c17 (y.1, ())).bind fun r6 =>
  (c19 (r3.1.1, (r6.1.1, ()))).bind fun r7 =>
  bif (!r7.1.1) then (some ((false, ()), ()))
  else (c20 (r3.1.1, ((1 : Int), ()))).bind fun r8 =>
  bif (ltI r8.1.1 (0 : Int)) then (some ((false, ()), ()))
  else (c26 (h1, (r2.1.1, ()))).bind fun r9 =>
  bif (!r9.1.1) then (some ((false, ()), ()))
  else (c27 (h1, ((1 : Int), ()))).bind fun r10 =>
  (c28 ((r10.1.2.1.1, (r10.1.2.1.2.1, (r10.1.2.1.2.2.1, (h4.1, (h5.1, (h6.1, (h7.1, (h8.1, (h9.1, (h10.1, (h11.1, (h12.1, (h13.1, (h14.1, (h15.1, (h16.1, (h17.1, (h18.1, (r10.1.2.1.2.2.2.2.2.2.2.2.2.2.2.2.2.2.2.2.2.2.1, (r10.1.2.1.2.2.2.2.2.2.2.2.2.2.2.2.2.2.2.2.2.2.2.1, (h21.1, (h22.1, (h23.1, (h24.1, (h25.1, (h26.1, (h27.1, (h27.2.1, (h28.1, (h28.2.1, (h28.2.2.1, r10.1.2.1.2.2.2.2.2.2.2.2.2.2.2.2.2.2.2.2.2.2.2.2.2.2.2.2.2.2.2.2.2.2.2))))))))))))))))))))))))))))))), ((1 : Int), ()))).bind fun r11 =>
  bif (ltI r11.1.1 (0 : Int)) then (some ((false, ()), ()))
  else bif (neI r11.1.1 r10.1.1) then (some ((false, ()), ()))
  else (c17 (y.1, ())).bind fun r12 =>
  (c32 (r12.1.1, ())).bind fun r13 =>
  (c26 (r13.1.1, (r2.1.1, ()))).bind fun r14 =>
  bif (!r14.1.1) then (some ((false, ()), ()))
  else (c28 ((r10.1.2.1.1, (r10.1.2.1.2.1, (r10.1.2.1.2.2.1, (h4.1, (h5.1, (h6.1, (h7.1, (h8.1, (h9.1, (h10.1, (h11.1, (h12.1, (h13.1, (h14.1, (h15.1, (h16.1, (h17.1, (h18.1, (r10.1.2.1.2.2.2.2.2.2.2.2.2.2.2.2.2.2.2.2.2.2.1, (r10.1.2.1.2.2.2.2.2.2.2.2.2.2.2.2.2.2.2.2.2.2.2.1, (h21.1, (h22.1, (h23.1, (h24.1, (h25.1, (h26.1, (h27.1, (h27.2.1, (h28.1, (h28.2.1, (h28.2.2.1, r10.1.2.1.2.2.2.2.2.2.2.2.2.2.2.2.2.2.2.2.2.2.2.2.2.2.2.2.2.2.2.2.2.2.2))))))))))))))))))))))))))))))), ((1 : Int), ()))).bind fun r15 =>
  bif (ltI r15.1.1 (0 : Int)) then (some ((false, ()), ()))
  else bif (neI r15.1.1 r10.1.1) then (some ((false, ()), ()))
  else some ((true, ()), ())
noncomputable def E6 (c32 : F32) (c26 : F26) (c19 : F19) (c28 : F28) (c27 : F27) (c20 : F20) (c15 : F15) (c17 : F17) (c31 : F31) := mkE [g32 c32, g26 c26, g19 c19, g28 c28, g27 c27, g20 c20, g15 c15, g17 c17, g31 c31]
theorem s6 (c32 : F32) (c26 : F26) (c19 : F19) (c28 : F28) (c27 : F27) (c20 : F20) (c15 : F15) (c17 : F17) (c31 : F31)  (y) : tevF (E6 c32 c26 c19 c28 c27 c20 c15 c17 c31 ) Tryz.f6 i6 o6 y = m6 c32 c26 c19 c28 c27 c20 c15 c17 c31  y := by kernel_rfl
noncomputable def r6 : F6 := m6 r32 r26 r19 r28 r27 r20 r15 r17 r31 
theorem k6 : CK Tryz.prog (g6 r6) := fn0 (s6 r32 r26 r19 r28 r27 r20 r15 r17 r31) (fnsL_ok ⟨k32, k26, k19, k28, k27, k20, k15, k17, k31, trivial⟩) rfl mixed (by kernel_rfl) (by kernel_rfl) (by kernel_rfl)
end Go.Proofs.YtanoofbkhddokaaGreat.Plain
