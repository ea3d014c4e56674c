/- Plain functions that the program's functions answer as; their contracts. Printed by a program of the proofs' writer. No condition. -/
import Derived.Test.YtanoofbkhddokaaGreatUf
import Derived.KernelRfl
import Derived.Test.YtanoofbkhddokaaGreatFn0
set_option linter.unusedVariables false
set_option linter.unusedSimpArgs false
set_option maxRecDepth 100000
namespace Go.Proofs.YtanoofbkhddokaaGreat.Plain
open Go Go.Tev
@[reducible] def i165 : List Ty := [.a q11, .v (.int .i64)]
@[reducible] def o165 : List Ty := [.v (.int .i64), .a q11]
abbrev F165 := PTup i165 → Option (PTup o165 × BTup i165)
abbrev g165 (c : F165) : Nat × Tev.Fn := (165, ⟨i165, o165, c, .inp⟩)
noncomputable def m165 (c239 : F239)  (y : PTup i165) : Option (PTup o165 × BTup i165) :=
  (c239 (y.1.2.1, y.2)).bind fun r0 =>
  some ((r0.1.1, ((y.1.1, r0.1.2), ())), ())
noncomputable def E165 (c239 : F239) := mkE [g239 c239]
theorem s165 (c239 : F239)  (y) : tevM (E165 c239 ) Tryz.f165 i165 o165 y = m165 c239  y := by kernel_rfl
noncomputable def r165 : F165 := m165 r239 
theorem k165 : CK Tryz.prog (g165 r165) := by
  exact fnM_ok (E := E165 r239 ) rfl (fnsL_ok ⟨k239, trivial⟩) mixed (by kernel_rfl) (by kernel_rfl) (AllLoops.of_list (l := []) (by kernel_rfl) trivial) (s165 r239 )
@[reducible] def i79 : List Ty := [.a q12, .v (.int .i64)]
@[reducible] def o79 : List Ty := [.v (.int .i64), .a q12]
abbrev F79 := PTup i79 → Option (PTup o79 × BTup i79)
abbrev g79 (c : F79) : Nat × Tev.Fn := (79, ⟨i79, o79, c, .inp⟩)
noncomputable def m79 (c164 : F164) (c100 : F100) (c165 : F165)  (y : PTup i79) : Option (PTup o79 × BTup i79) :=
  (c100 ((y.1.1, (y.1.2.1, (y.1.2.2.1, (y.1.2.2.2.1, (y.1.2.2.2.2.1, (y.1.2.2.2.2.2.1, (y.1.2.2.2.2.2.2.1, (y.1.2.2.2.2.2.2.2.1, ())))))))), y.2)).bind fun r0 =>
  (c165 ((y.1.2.2.2.2.2.2.2.2.1, (y.1.2.2.2.2.2.2.2.2.2.1, ())), (r0.1.1, ()))).bind fun r1 =>
  (c164 (y.1.2.2.2.2.2.2.2.2.2.2.1, (r1.1.1, ()))).bind fun r2 =>
  some ((r2.1.1, ((y.1.1, (y.1.2.1, (y.1.2.2.1, (y.1.2.2.2.1, (y.1.2.2.2.2.1, (y.1.2.2.2.2.2.1, (r0.1.2.1.2.2.2.2.2.2.1, (r0.1.2.1.2.2.2.2.2.2.2.1, (y.1.2.2.2.2.2.2.2.2.1, (r1.1.2.1.2.1, r2.1.2)))))))))), ())), ())
noncomputable def E79 (c164 : F164) (c100 : F100) (c165 : F165) := mkE [g164 c164, g100 c100, g165 c165]
theorem s79 (c164 : F164) (c100 : F100) (c165 : F165)  (y) : tevM (E79 c164 c100 c165 ) Tryz.f79 i79 o79 y = m79 c164 c100 c165  y := by kernel_rfl
noncomputable def r79 : F79 := m79 r164 r100 r165 
theorem k79 : CK Tryz.prog (g79 r79) := by
  exact fnM_ok (E := E79 r164 r100 r165 ) rfl (fnsL_ok ⟨k164, k100, k165, trivial⟩) mixed (by kernel_rfl) (by kernel_rfl) (AllLoops.of_list (l := []) (by kernel_rfl) trivial) (s79 r164 r100 r165 )
@[reducible] def i80 : List Ty := [.a q14, .v (.int .i64)]
@[reducible] def o80 : List Ty := [.v (.int .i64), .a q14]
abbrev F80 := PTup i80 → Option (PTup o80 × BTup i80)
abbrev g80 (c : F80) : Nat × Tev.Fn := (80, ⟨i80, o80, c, .inp⟩)
noncomputable def m80 (c36 : F36) (c165 : F165)  (y : PTup i80) : Option (PTup o80 × BTup i80) :=
  (c165 ((y.1.2.2.2.2.2.2.2.1, (y.1.2.2.2.2.2.2.2.2.1, ())), y.2)).bind fun r0 =>
  (c36 (y.1.2.2.2.2.2.2.2.2.2.1, (r0.1.1, ()))).bind fun r1 =>
  some ((r1.1.1, ((y.1.1, (y.1.2.1, (y.1.2.2.1, (y.1.2.2.2.1, (y.1.2.2.2.2.1, (y.1.2.2.2.2.2.1, (y.1.2.2.2.2.2.2.1, (y.1.2.2.2.2.2.2.2.1, (r0.1.2.1.2.1, r1.1.2))))))))), ())), ())
noncomputable def E80 (c36 : F36) (c165 : F165) := mkE [g36 c36, g165 c165]
theorem s80 (c36 : F36) (c165 : F165)  (y) : tevM (E80 c36 c165 ) Tryz.f80 i80 o80 y = m80 c36 c165  y := by kernel_rfl
noncomputable def r80 : F80 := m80 r36 r165 
theorem k80 : CK Tryz.prog (g80 r80) := by
  exact fnM_ok (E := E80 r36 r165 ) rfl (fnsL_ok ⟨k36, k165, trivial⟩) mixed (by kernel_rfl) (by kernel_rfl) (AllLoops.of_list (l := []) (by kernel_rfl) trivial) (s80 r36 r165 )
@[reducible] def i20 : List Ty := [.a q15, .v (.int .i64)]
@[reducible] def o20 : List Ty := [.v (.int .i64), .a q15]
abbrev F20 := PTup i20 → Option (PTup o20 × BTup i20)
abbrev g20 (c : F20) : Nat × Tev.Fn := (20, ⟨i20, o20, c, .inp⟩)
noncomputable def m20 (c77 : F77) (c36 : F36) (c78 : F78) (c79 : F79) (c80 : F80)  (y : PTup i20) : Option (PTup o20 × BTup i20) :=
  let a0 := y.1; let a1 := a0.2; let a2 := a1.2; let a3 := a2.2; let a4 := a3.2; let a5 := a4.2; let a6 := a5.2; let a7 := a6.2; let a8 := a7.2; let a9 := a8.2; let a10 := a9.2; let a11 := a10.2; let a12 := a11.2; let a13 := a12.2; let a14 := a13.2; let a15 := a14.2; let a16 := a15.2; let a17 := a16.2; let a18 := a17.2; let a19 := a18.2; let a20 := a19.2; let a21 := a20.2; let a22 := a21.2; let a23 := a22.2; let a24 := a23.2; let a25 := a24.2; let a26 := a25.2; let a27 := a26.2; let a28 := a27.2; let a29 := a28.2; let a30 := a29.2; let a31 := a30.2; let a32 := a31.2.2; let a33 := a32.2.2.2; (c77 ((a0.1, ()), y.2)).bind fun r0 =>
  (c36 (a1.1, (r0.1.1, ()))).bind fun r1 =>
  (c78 ((a2.1, (a3.1, ())), (r1.1.1, ()))).bind fun r2 =>
  (c36 (a20.1, (r2.1.1, ()))).bind fun r3 =>
  (c79 ((a21.1, (a22.1, (a23.1, (a24.1, (a25.1, (a26.1, (a27.1, (a28.1, (a29.1, (a30.1, (a31.1, ()))))))))))), (r3.1.1, ()))).bind fun r4 =>
  (c80 (a31.2, (r4.1.1, ()))).bind fun r5 =>
  some ((r5.1.1, ((r0.1.2.1.1, (r1.1.2.1, (r2.1.2.1.1, (a3.1, (a4.1, (a5.1, (a6.1, (a7.1, (a8.1, (a9.1, (a10.1, (a11.1, (a12.1, (a13.1, (a14.1, (a15.1, (a16.1, (a17.1, (a18.1, (a19.1, (r3.1.2.1, (a21.1, (a22.1, (a23.1, (a24.1, (a25.1, (a26.1, (r4.1.2.1.2.2.2.2.2.2.1, (r4.1.2.1.2.2.2.2.2.2.2.1, (a29.1, (r4.1.2.1.2.2.2.2.2.2.2.2.2.1, (r4.1.2.1.2.2.2.2.2.2.2.2.2.2.1, (a31.2.1, (a32.1, (a32.2.1, (a32.2.2.1, (a33.1, (a33.2.1, (a33.2.2.1, (a33.2.2.2.1, r5.1.2.1.2.2.2.2.2.2.2.2)))))))))))))))))))))))))))))))))))))))), ())), ())
noncomputable def E20 (c77 : F77) (c36 : F36) (c78 : F78) (c79 : F79) (c80 : F80) := mkE [g77 c77, g36 c36, g78 c78, g79 c79, g80 c80]
theorem s20 (c77 : F77) (c36 : F36) (c78 : F78) (c79 : F79) (c80 : F80)  (y) : tevM (E20 c77 c36 c78 c79 c80 ) Tryz.f20 i20 o20 y = m20 c77 c36 c78 c79 c80  y := by kernel_rfl
noncomputable def r20 : F20 := m20 r77 r36 r78 r79 r80 
theorem k20 : CK Tryz.prog (g20 r20) := by
  exact fnM_ok (E := E20 r77 r36 r78 r79 r80 ) rfl (fnsL_ok ⟨k77, k36, k78, k79, k80, trivial⟩) mixed (by kernel_rfl) (by kernel_rfl) (AllLoops.of_list (l := []) (by kernel_rfl) trivial) (s20 r77 r36 r78 r79 r80 )
@[reducible] def i37 : List Ty := [.v (.sl false .i), .v (.int .i64)]
@[reducible] def o37 : List Ty := [.v (.int .i64)]
abbrev F37 := PTup i37 → Option (PTup o37 × BTup i37)
abbrev g37 (c : F37) : Nat × Tev.Fn := (37, ⟨i37, o37, c, .nor⟩)
@[reducible] def lc37_0 : List Ty := [.v (.sl false .i)]
@[reducible] def lb37_0 : List Ty := []
@[reducible] def lv37_0 : List Ty := [.v (.int .i64), .v (.int .i64)]
@[reducible] def lr37_0 : List Ty := [.v (.int .i64)]
noncomputable def w37_0   (again : PTup lb37_0 → PTup lv37_0 → Option (Sum (PTup lv37_0) (PTup lr37_0) × BTup lb37_0)) (x : PTup lc37_0) (y : PTup lb37_0) (z : PTup lv37_0) : Option (Sum (PTup lv37_0) (PTup lr37_0) × BTup lb37_0) :=
  bif (ltI z.2.1 (lenI x.1)) then (bif (leI (0 : Int) z.2.1) then (bif (ltI z.2.1 (lenI x.1)) then (bif (neI (rdE .i x.1 z.2.1) z.1) then (some ((Sum.inr ((-(1 : Int)), ())), ()))
     else again () ((wI (z.1 + (1 : Int))), ((wI (z.2.1 + (1 : Int))), ())))
    else none)
   else none)
  else some ((Sum.inl z), ())
noncomputable def e37_0 (l : PTup lc37_0 → PTup lb37_0 → PTup lv37_0 → Option (Sum (PTup lv37_0) (PTup lr37_0) × BTup lb37_0)) : LoopE := ⟨[0], lc37_0, [], lb37_0, [1, 5], lv37_0, [4], lr37_0, 0, [], l⟩
noncomputable def m37  (l0 : PTup lc37_0 → PTup lb37_0 → PTup lv37_0 → Option (Sum (PTup lv37_0) (PTup lr37_0) × BTup lb37_0)) (y : PTup i37) : Option (PTup o37 × BTup i37) :=
  (l0 (y.1, ()) () (y.2.1, ((0 : Int), ()))).bind fun r0 =>
  sumElim r0.1 (fun r1 => some ((r1.1, ()), ()))
  (fun r1 => some (r1, ()))
noncomputable def E37  (l0 : PTup lc37_0 → PTup lb37_0 → PTup lv37_0 → Option (Sum (PTup lv37_0) (PTup lr37_0) × BTup lb37_0)) : CEnv := ⟨⟨Tryz.prog, fnsL []⟩, loopsL [(2, e37_0 l0)]⟩
theorem t37_0  (l0 : PTup lc37_0 → PTup lb37_0 → PTup lv37_0 → Option (Sum (PTup lv37_0) (PTup lr37_0) × BTup lb37_0)) (again) (x y z) : loopRound (E37  l0) (loopAt (bodyOf Tryz.f37) 0) (e37_0 l0) Tryz.f37.ntmps again x y z = w37_0   again x y z := by kernel_rfl
noncomputable def n37_0   : Nat → PTup lc37_0 → PTup lb37_0 → PTup lv37_0 → Option (Sum (PTup lv37_0) (PTup lr37_0) × BTup lb37_0)
  | 0, _, _, _ => none
  | n + 1, x, y, z => w37_0   (fun y z => n37_0   n x y z) x y z
theorem s37  (l0 : PTup lc37_0 → PTup lb37_0 → PTup lv37_0 → Option (Sum (PTup lv37_0) (PTup lr37_0) × BTup lb37_0)) (y) : tevF (E37  l0) Tryz.f37 i37 o37 y = m37  l0 y := by kernel_rfl
noncomputable def L37_0 : PTup lc37_0 → PTup lb37_0 → PTup lv37_0 → Option (Sum (PTup lv37_0) (PTup lr37_0) × BTup lb37_0) := n37_0   fuel
noncomputable def r37 : F37 := m37  L37_0
theorem k37 : CK Tryz.prog (g37 r37) := by
  have hE : ∀ g f, (E37  L37_0).env.fns g = some f → CallOk Tryz.prog g f := fnsL_ok trivial
  have h0 : LoopOk Tryz.prog Tryz.f37.ntmps (loopAt (bodyOf Tryz.f37) 0) (e37_0 L37_0) := lp_ok (E := E37  L37_0) rfl hE mixed (AllLoops.of_list (l := []) (by kernel_rfl) trivial) (n37_0  ) (fun _ _ _ => rfl) (fun n x y z => t37_0  L37_0 _ x y z) rfl
  exact fn_ok (E := E37  L37_0) rfl hE mixed (by kernel_rfl) (by kernel_rfl) (AllLoops.of_list (l := [(loopAt (bodyOf Tryz.f37) 0)]) (by kernel_rfl) (.one (by kernel_rfl) h0 trivial)) (s37  L37_0)
@[reducible] def i166 : List Ty := [.v (.sl false .n), .v (.int .i64)]
@[reducible] def o166 : List Ty := [.v (.int .i64)]
abbrev F166 := PTup i166 → Option (PTup o166 × BTup i166)
abbrev g166 (c : F166) : Nat × Tev.Fn := (166, ⟨i166, o166, c, .nor⟩)
@[reducible] def lc166_0 : List Ty := [.v (.sl false .n)]
@[reducible] def lb166_0 : List Ty := []
@[reducible] def lv166_0 : List Ty := [.v (.int .i64), .v (.int .i64)]
@[reducible] def lr166_0 : List Ty := [.v (.int .i64)]
noncomputable def w166_0 (c37 : F37)  (again : PTup lb166_0 → PTup lv166_0 → Option (Sum (PTup lv166_0) (PTup lr166_0) × BTup lb166_0)) (x : PTup lc166_0) (y : PTup lb166_0) (z : PTup lv166_0) : Option (Sum (PTup lv166_0) (PTup lr166_0) × BTup lb166_0) :=
  bif (ltI z.2.1 (lenI x.1)) then (bif (leI (0 : Int) z.2.1) then (bif (ltI z.2.1 (lenI x.1)) then ((c37 ((rdE .n x.1 z.2.1), (z.1, ()))).bind fun r0 =>
     bif (ltI r0.1.1 (0 : Int)) then (some ((Sum.inr ((-(1 : Int)), ())), ()))
     else again () (r0.1.1, ((wI (z.2.1 + (1 : Int))), ())))
    else none)
   else none)
  else some ((Sum.inl z), ())
noncomputable def e166_0 (l : PTup lc166_0 → PTup lb166_0 → PTup lv166_0 → Option (Sum (PTup lv166_0) (PTup lr166_0) × BTup lb166_0)) : LoopE := ⟨[0], lc166_0, [], lb166_0, [1, 5], lv166_0, [4], lr166_0, 0, [], l⟩
noncomputable def m166 (c37 : F37) (l0 : PTup lc166_0 → PTup lb166_0 → PTup lv166_0 → Option (Sum (PTup lv166_0) (PTup lr166_0) × BTup lb166_0)) (y : PTup i166) : Option (PTup o166 × BTup i166) :=
  (l0 (y.1, ()) () (y.2.1, ((0 : Int), ()))).bind fun r0 =>
  sumElim r0.1 (fun r1 => some ((r1.1, ()), ()))
  (fun r1 => some (r1, ()))
noncomputable def E166 (c37 : F37) (l0 : PTup lc166_0 → PTup lb166_0 → PTup lv166_0 → Option (Sum (PTup lv166_0) (PTup lr166_0) × BTup lb166_0)) : CEnv := ⟨⟨Tryz.prog, fnsL [g37 c37]⟩, loopsL [(2, e166_0 l0)]⟩
theorem t166_0 (c37 : F37) (l0 : PTup lc166_0 → PTup lb166_0 → PTup lv166_0 → Option (Sum (PTup lv166_0) (PTup lr166_0) × BTup lb166_0)) (again) (x y z) : loopRound (E166 c37 l0) (loopAt (bodyOf Tryz.f166) 0) (e166_0 l0) Tryz.f166.ntmps again x y z = w166_0 c37  again x y z := by kernel_rfl
noncomputable def n166_0 (c37 : F37)  : Nat → PTup lc166_0 → PTup lb166_0 → PTup lv166_0 → Option (Sum (PTup lv166_0) (PTup lr166_0) × BTup lb166_0)
  | 0, _, _, _ => none
  | n + 1, x, y, z => w166_0 c37  (fun y z => n166_0 c37  n x y z) x y z
theorem s166 (c37 : F37) (l0 : PTup lc166_0 → PTup lb166_0 → PTup lv166_0 → Option (Sum (PTup lv166_0) (PTup lr166_0) × BTup lb166_0)) (y) : tevF (E166 c37 l0) Tryz.f166 i166 o166 y = m166 c37 l0 y := by kernel_rfl
noncomputable def L166_0 : PTup lc166_0 → PTup lb166_0 → PTup lv166_0 → Option (Sum (PTup lv166_0) (PTup lr166_0) × BTup lb166_0) := n166_0 r37  fuel
noncomputable def r166 : F166 := m166 r37 L166_0
theorem k166 : CK Tryz.prog (g166 r166) := by
  have hE : ∀ g f, (E166 r37 L166_0).env.fns g = some f → CallOk Tryz.prog g f := fnsL_ok ⟨k37, trivial⟩
  have h0 : LoopOk Tryz.prog Tryz.f166.ntmps (loopAt (bodyOf Tryz.f166) 0) (e166_0 L166_0) := lp_ok (E := E166 r37 L166_0) rfl hE mixed (AllLoops.of_list (l := []) (by kernel_rfl) trivial) (n166_0 r37 ) (fun _ _ _ => rfl) (fun n x y z => t166_0 r37 L166_0 _ x y z) rfl
  exact fn_ok (E := E166 r37 L166_0) rfl hE mixed (by kernel_rfl) (by kernel_rfl) (AllLoops.of_list (l := [(loopAt (bodyOf Tryz.f166) 0)]) (by kernel_rfl) (.one (by kernel_rfl) h0 trivial)) (s166 r37 L166_0)
@[reducible] def i81 : List Ty := [.a q0, .v (.int .i64)]
@[reducible] def o81 : List Ty := [.v (.int .i64)]
abbrev F81 := PTup i81 → Option (PTup o81 × BTup i81)
abbrev g81 (c : F81) : Nat × Tev.Fn := (81, ⟨i81, o81, c, .nor⟩)
noncomputable def m81 (c166 : F166)  (y : PTup i81) : Option (PTup o81 × BTup i81) :=
  (c166 (y.1.1, y.2)).bind fun r0 =>
  bif (ltI r0.1.1 (0 : Int)) then (some (((-(1 : Int)), ()), ()))
  else some (r0.1, ())
noncomputable def E81 (c166 : F166) := mkE [g166 c166]
theorem s81 (c166 : F166)  (y) : tevF (E81 c166 ) Tryz.f81 i81 o81 y = m81 c166  y := by kernel_rfl
noncomputable def r81 : F81 := m81 r166 
theorem k81 : CK Tryz.prog (g81 r81) := fn0 (s81 r166) (fnsL_ok ⟨k166, trivial⟩) rfl mixed (by kernel_rfl) (by kernel_rfl) (by kernel_rfl)
@[reducible] def i82 : List Ty := [.a q1, .v (.int .i64)]
@[reducible] def o82 : List Ty := [.v (.int .i64)]
abbrev F82 := PTup i82 → Option (PTup o82 × BTup i82)
abbrev g82 (c : F82) : Nat × Tev.Fn := (82, ⟨i82, o82, c, .nor⟩)
noncomputable def m82 (c37 : F37)  (y : PTup i82) : Option (PTup o82 × BTup i82) :=
  (c37 (y.1.1, y.2)).bind fun r0 =>
  bif (ltI r0.1.1 (0 : Int)) then (some (((-(1 : Int)), ()), ()))
  else some (r0.1, ())
noncomputable def E82 (c37 : F37) := mkE [g37 c37]
theorem s82 (c37 : F37)  (y) : tevF (E82 c37 ) Tryz.f82 i82 o82 y = m82 c37  y := by kernel_rfl
noncomputable def r82 : F82 := m82 r37 
theorem k82 : CK Tryz.prog (g82 r82) := fn0 (s82 r37) (fnsL_ok ⟨k37, trivial⟩) rfl mixed (by kernel_rfl) (by kernel_rfl) (by kernel_rfl)
@[reducible] def i102 : List Ty := [.a q2, .v (.int .i64)]
@[reducible] def o102 : List Ty := [.v (.int .i64)]
abbrev F102 := PTup i102 → Option (PTup o102 × BTup i102)
abbrev g102 (c : F102) : Nat × Tev.Fn := (102, ⟨i102, o102, c, .nor⟩)
noncomputable def m102 (c37 : F37)  (y : PTup i102) : Option (PTup o102 × BTup i102) :=
  (c37 (y.1.2.2.2.2.2.2.1, y.2)).bind fun r0 =>
  bif (ltI r0.1.1 (0 : Int)) then (some (((-(1 : Int)), ()), ()))
  else (c37 (y.1.2.2.2.2.2.2.2.1, r0.1)).bind fun r1 =>
  bif (ltI r1.1.1 (0 : Int)) then (some (((-(1 : Int)), ()), ()))
  else some (r1.1, ())
noncomputable def E102 (c37 : F37) := mkE [g37 c37]
theorem s102 (c37 : F37)  (y) : tevF (E102 c37 ) Tryz.f102 i102 o102 y = m102 c37  y := by kernel_rfl
noncomputable def r102 : F102 := m102 r37 
theorem k102 : CK Tryz.prog (g102 r102) := fn0 (s102 r37) (fnsL_ok ⟨k37, trivial⟩) rfl mixed (by kernel_rfl) (by kernel_rfl) (by kernel_rfl)
@[reducible] def i240 : List Ty := [.v (.sl false .t), .v (.int .i64)]
@[reducible] def o240 : List Ty := [.v (.int .i64)]
abbrev F240 := PTup i240 → Option (PTup o240 × BTup i240)
abbrev g240 (c : F240) : Nat × Tev.Fn := (240, ⟨i240, o240, c, .nor⟩)
@[reducible] def lc240_0 : List Ty := [.v (.sl false .t)]
@[reducible] def lb240_0 : List Ty := []
@[reducible] def lv240_0 : List Ty := [.v (.int .i64), .v (.int .i64)]
@[reducible] def lr240_0 : List Ty := [.v (.int .i64)]
noncomputable def w240_0   (again : PTup lb240_0 → PTup lv240_0 → Option (Sum (PTup lv240_0) (PTup lr240_0) × BTup lb240_0)) (x : PTup lc240_0) (y : PTup lb240_0) (z : PTup lv240_0) : Option (Sum (PTup lv240_0) (PTup lr240_0) × BTup lb240_0) :=
  bif (ltI z.2.1 (lenI x.1)) then (bif (leI (0 : Int) z.2.1) then (bif (ltI z.2.1 (lenI x.1)) then (bif (neI (rdE .t x.1 z.2.1).1 z.1) then (some ((Sum.inr ((-(1 : Int)), ())), ()))
     else bif (leI (0 : Int) z.2.1) then (bif (ltI z.2.1 (lenI x.1)) then (bif (neI (rdE .t x.1 z.2.1).2.1 (wI (z.1 + (1 : Int)))) then (some ((Sum.inr ((-(1 : Int)), ())), ()))
       else bif (leI (0 : Int) z.2.1) then (bif (ltI z.2.1 (lenI x.1)) then (bif (neI (rdE .t x.1 z.2.1).2.2 (wI ((wI (z.1 + (1 : Int))) + (1 : Int)))) then (some ((Sum.inr ((-(1 : Int)), ())), ()))
         else again () ((wI ((wI ((wI (z.1 + (1 : Int))) + (1 : Int))) + (1 : Int))), ((wI (z.2.1 + (1 : Int))), ())))
        else none)
       else none)
      else none)
     else none)
    else none)
   else none)
  else some ((Sum.inl z), ())
noncomputable def e240_0 (l : PTup lc240_0 → PTup lb240_0 → PTup lv240_0 → Option (Sum (PTup lv240_0) (PTup lr240_0) × BTup lb240_0)) : LoopE := ⟨[0], lc240_0, [], lb240_0, [1, 5], lv240_0, [4], lr240_0, 0, [], l⟩
noncomputable def m240  (l0 : PTup lc240_0 → PTup lb240_0 → PTup lv240_0 → Option (Sum (PTup lv240_0) (PTup lr240_0) × BTup lb240_0)) (y : PTup i240) : Option (PTup o240 × BTup i240) :=
  (l0 (y.1, ()) () (y.2.1, ((0 : Int), ()))).bind fun r0 =>
  sumElim r0.1 (fun r1 => some ((r1.1, ()), ()))
  (fun r1 => some (r1, ()))
noncomputable def E240  (l0 : PTup lc240_0 → PTup lb240_0 → PTup lv240_0 → Option (Sum (PTup lv240_0) (PTup lr240_0) × BTup lb240_0)) : CEnv := ⟨⟨Tryz.prog, fnsL []⟩, loopsL [(2, e240_0 l0)]⟩
theorem t240_0  (l0 : PTup lc240_0 → PTup lb240_0 → PTup lv240_0 → Option (Sum (PTup lv240_0) (PTup lr240_0) × BTup lb240_0)) (again) (x y z) : loopRound (E240  l0) (loopAt (bodyOf Tryz.f240) 0) (e240_0 l0) Tryz.f240.ntmps again x y z = w240_0   again x y z := by kernel_rfl
noncomputable def n240_0   : Nat → PTup lc240_0 → PTup lb240_0 → PTup lv240_0 → Option (Sum (PTup lv240_0) (PTup lr240_0) × BTup lb240_0)
  | 0, _, _, _ => none
  | n + 1, x, y, z => w240_0   (fun y z => n240_0   n x y z) x y z
theorem s240  (l0 : PTup lc240_0 → PTup lb240_0 → PTup lv240_0 → Option (Sum (PTup lv240_0) (PTup lr240_0) × BTup lb240_0)) (y) : tevF (E240  l0) Tryz.f240 i240 o240 y = m240  l0 y := by kernel_rfl
noncomputable def L240_0 : PTup lc240_0 → PTup lb240_0 → PTup lv240_0 → Option (Sum (PTup lv240_0) (PTup lr240_0) × BTup lb240_0) := n240_0   fuel
noncomputable def r240 : F240 := m240  L240_0
theorem k240 : CK Tryz.prog (g240 r240) := by
  have hE : ∀ g f, (E240  L240_0).env.fns g = some f → CallOk Tryz.prog g f := fnsL_ok trivial
  have h0 : LoopOk Tryz.prog Tryz.f240.ntmps (loopAt (bodyOf Tryz.f240) 0) (e240_0 L240_0) := lp_ok (E := E240  L240_0) rfl hE mixed (AllLoops.of_list (l := []) (by kernel_rfl) trivial) (n240_0  ) (fun _ _ _ => rfl) (fun n x y z => t240_0  L240_0 _ x y z) rfl
  exact fn_ok (E := E240  L240_0) rfl hE mixed (by kernel_rfl) (by kernel_rfl) (AllLoops.of_list (l := [(loopAt (bodyOf Tryz.f240) 0)]) (by kernel_rfl) (.one (by kernel_rfl) h0 trivial)) (s240  L240_0)
@[reducible] def i167 : List Ty := [.a q3, .v (.int .i64)]
@[reducible] def o167 : List Ty := [.v (.int .i64)]
abbrev F167 := PTup i167 → Option (PTup o167 × BTup i167)
abbrev g167 (c : F167) : Nat × Tev.Fn := (167, ⟨i167, o167, c, .nor⟩)
noncomputable def m167 (c240 : F240)  (y : PTup i167) : Option (PTup o167 × BTup i167) :=
  (c240 (y.1.2.1, y.2)).bind fun r0 =>
  bif (ltI r0.1.1 (0 : Int)) then (some (((-(1 : Int)), ()), ()))
  else some (r0.1, ())
noncomputable def E167 (c240 : F240) := mkE [g240 c240]
theorem s167 (c240 : F240)  (y) : tevF (E167 c240 ) Tryz.f167 i167 o167 y = m167 c240  y := by kernel_rfl
noncomputable def r167 : F167 := m167 r240 
theorem k167 : CK Tryz.prog (g167 r167) := fn0 (s167 r240) (fnsL_ok ⟨k240, trivial⟩) rfl mixed (by kernel_rfl) (by kernel_rfl) (by kernel_rfl)
@[reducible] def i83 : List Ty := [.a q4, .v (.int .i64)]
@[reducible] def o83 : List Ty := [.v (.int .i64)]
abbrev F83 := PTup i83 → Option (PTup o83 × BTup i83)
abbrev g83 (c : F83) : Nat × Tev.Fn := (83, ⟨i83, o83, c, .nor⟩)
noncomputable def m83 (c166 : F166) (c102 : F102) (c167 : F167)  (y : PTup i83) : Option (PTup o83 × BTup i83) :=
  (c102 ((y.1.1, (y.1.2.1, (y.1.2.2.1, (y.1.2.2.2.1, (y.1.2.2.2.2.1, (y.1.2.2.2.2.2.1, (y.1.2.2.2.2.2.2.1, (y.1.2.2.2.2.2.2.2.1, ())))))))), y.2)).bind fun r0 =>
  bif (ltI r0.1.1 (0 : Int)) then (some (((-(1 : Int)), ()), ()))
  else (c167 ((y.1.2.2.2.2.2.2.2.2.1, (y.1.2.2.2.2.2.2.2.2.2.1, ())), r0.1)).bind fun r1 =>
  bif (ltI r1.1.1 (0 : Int)) then (some (((-(1 : Int)), ()), ()))
  else (c166 (y.1.2.2.2.2.2.2.2.2.2.2.1, r1.1)).bind fun r2 =>
  bif (ltI r2.1.1 (0 : Int)) then (some (((-(1 : Int)), ()), ()))
  else some (r2.1, ())
noncomputable def E83 (c166 : F166) (c102 : F102) (c167 : F167) := mkE [g166 c166, g102 c102, g167 c167]
theorem s83 (c166 : F166) (c102 : F102) (c167 : F167)  (y) : tevF (E83 c166 c102 c167 ) Tryz.f83 i83 o83 y = m83 c166 c102 c167  y := by kernel_rfl
noncomputable def r83 : F83 := m83 r166 r102 r167 
theorem k83 : CK Tryz.prog (g83 r83) := fn0 (s83 r166 r102 r167) (fnsL_ok ⟨k166, k102, k167, trivial⟩) rfl mixed (by kernel_rfl) (by kernel_rfl) (by kernel_rfl)
@[reducible] def i84 : List Ty := [.a q5, .v (.int .i64)]
@[reducible] def o84 : List Ty := [.v (.int .i64)]
abbrev F84 := PTup i84 → Option (PTup o84 × BTup i84)
abbrev g84 (c : F84) : Nat × Tev.Fn := (84, ⟨i84, o84, c, .nor⟩)
noncomputable def m84 (c37 : F37) (c167 : F167)  (y : PTup i84) : Option (PTup o84 × BTup i84) :=
  (c167 ((y.1.2.2.2.2.2.2.2.1, (y.1.2.2.2.2.2.2.2.2.1, ())), y.2)).bind fun r0 =>
  bif (ltI r0.1.1 (0 : Int)) then (some (((-(1 : Int)), ()), ()))
  else (c37 (y.1.2.2.2.2.2.2.2.2.2.1, r0.1)).bind fun r1 =>
  bif (ltI r1.1.1 (0 : Int)) then (some (((-(1 : Int)), ()), ()))
  else some (r1.1, ())
noncomputable def E84 (c37 : F37) (c167 : F167) := mkE [g37 c37, g167 c167]
theorem s84 (c37 : F37) (c167 : F167)  (y) : tevF (E84 c37 c167 ) Tryz.f84 i84 o84 y = m84 c37 c167  y := by kernel_rfl
noncomputable def r84 : F84 := m84 r37 r167 
theorem k84 : CK Tryz.prog (g84 r84) := fn0 (s84 r37 r167) (fnsL_ok ⟨k37, k167, trivial⟩) rfl mixed (by kernel_rfl) (by kernel_rfl) (by kernel_rfl)
@[reducible] def i21 : List Ty := [.a q6, .v (.int .i64)]
@[reducible] def o21 : List Ty := [.v (.int .i64)]
abbrev F21 := PTup i21 → Option (PTup o21 × BTup i21)
abbrev g21 (c : F21) : Nat × Tev.Fn := (21, ⟨i21, o21, c, .nor⟩)
noncomputable def m21 (c81 : F81) (c37 : F37) (c82 : F82) (c83 : F83) (c84 : F84)  (y : PTup i21) : Option (PTup o21 × BTup i21) :=
  let a0 := y.1; let a1 := a0.2; let a2 := a1.2; let a3 := a2.2; let a4 := a3.2; let a5 := a4.2; let a6 := a5.2; let a7 := a6.2; let a8 := a7.2; let a9 := a8.2; let a10 := a9.2.2; let a11 := a10.2; let a12 := a11.2; let a13 := a12.2; let a14 := a13.2; let a15 := a14.2; let a16 := a15.2; let a17 := a16.2; let a18 := a17.2; let a19 := a18.2; let a20 := a19.2; let a21 := a20.2; let a22 := a21.2; let a23 := a22.2.2; let a24 := a23.2.2; (c81 ((a0.1, ()), y.2)).bind fun r0 =>
  bif (ltI r0.1.1 (0 : Int)) then (some (((-(1 : Int)), ()), ()))
  else (c37 (a1.1, r0.1)).bind fun r1 =>
  bif (ltI r1.1.1 (0 : Int)) then (some (((-(1 : Int)), ()), ()))
  else (c82 ((a2.1, (a3.1, ())), r1.1)).bind fun r2 =>
  bif (ltI r2.1.1 (0 : Int)) then (some (((-(1 : Int)), ()), ()))
  else (c37 (a19.1, r2.1)).bind fun r3 =>
  bif (ltI r3.1.1 (0 : Int)) then (some (((-(1 : Int)), ()), ()))
  else (c83 ((a20.1, (a21.1, (a22.1, (a22.2.1, (a23.1, (a23.2.1, (a24.1, (a24.2.1, (a24.2.2.1, (a24.2.2.2.1, (a24.2.2.2.2.1, ()))))))))))), r3.1)).bind fun r4 =>
  bif (ltI r4.1.1 (0 : Int)) then (some (((-(1 : Int)), ()), ()))
  else (c84 (a24.2.2.2.2.2, r4.1)).bind fun r5 =>
  bif (ltI r5.1.1 (0 : Int)) then (some (((-(1 : Int)), ()), ()))
  else some (r5.1, ())
noncomputable def E21 (c81 : F81) (c37 : F37) (c82 : F82) (c83 : F83) (c84 : F84) := mkE [g81 c81, g37 c37, g82 c82, g83 c83, g84 c84]
theorem s21 (c81 : F81) (c37 : F37) (c82 : F82) (c83 : F83) (c84 : F84)  (y) : tevF (E21 c81 c37 c82 c83 c84 ) Tryz.f21 i21 o21 y = m21 c81 c37 c82 c83 c84  y := by kernel_rfl
noncomputable def r21 : F21 := m21 r81 r37 r82 r83 r84 
theorem k21 : CK Tryz.prog (g21 r21) := fn0 (s21 r81 r37 r82 r83 r84) (fnsL_ok ⟨k81, k37, k82, k83, k84, trivial⟩) rfl mixed (by kernel_rfl) (by kernel_rfl) (by kernel_rfl)
@[reducible] def i3 : List Ty := [.a q6]
@[reducible] def o3 : List Ty := [.v (.bool)]
abbrev F3 := PTup i3 → Option (PTup o3 × BTup i3)
abbrev g3 (c : F3) : Nat × Tev.Fn := (3, ⟨i3, o3, c, .nor⟩)
noncomputable def m3 (c18 : F18) (c19 : F19) (c21 : F21) (c20 : F20) (c15 : F15) (c17 : F17) (c16 : F16)  (y : PTup i3) : Option (PTup o3 × BTup i3) :=
  (c15 (y.1, ((1048576 : Int), ()))).bind fun r0 =>
  bif (ltI r0.1.1 (0 : Int)) then (some ((true, ()), ()))
  else (c17 (y.1, ())).bind fun r1 =>
  (c16 (r1.1.1, ())).bind fun r2 =>
  (c17 (y.1, ())).bind fun r3 =>
  (c18 (r3.1.1, ())).bind fun r4 => let h0 := r4.1; let h1 := h0.1; let h2 := h1.2; let h3 := h2.2; let h4 := h3.2; let h5 := h4.2; let h6 := h5.2; let h7 := h6.2; let h8 := h7.2; let h9 := h8.2; let h10 := h9.2; let h11 := h10.2; let h12 := h11.2; let h13 := h12.2; let h14 := h13.2; let h15 := h14.2; let h16 := h15.2; let h17 := h16.2; let h18 := h17.2; let h19 := h18.2; let h20 := h19.2; let h21 := h20.2; let h22 := h21.2; let h23 := h22.2; let h24 := h23.2; let h25 := h24.2; let h26 := h25.2; let h27 := h26.2; let h28 := h27.2; let h29 := h28.2; let h30 := h29.2; let h31 := h30.2; let h32 := h31.2; let h33 := h32.2; let h34 := h33.2; let h35 := h34.2; let h36 := h35.2; let h37 := h36.2.2; (c19 (h1, (r2.1.1, ()))).bind fun r5 =>
  bif (!r5.1.1) then (some ((false, ()), ()))
  else (c17 (y.1, ())).bind fun r6 =>
  (c19 (r3.1.1, (r6.1.1, ()))).bind fun r7 =>
  bif (!r7.1.1) then (some ((false, ()), ()))
  else (c20 (r3.1.1, ((1 : Int), ()))).bind fun r8 =>
  bif (ltI r8.1.1 (0 : Int)) then (some ((false, ()), ()))
  else (c19 (h1, (r2.1.1, ()))).bind fun r9 =>
  bif (!r9.1.1) then (some ((false, ()), ()))
  else (c20 (h1, ((1 : Int), ()))).bind fun r10 => let u0 := r10.1; let u1 := u0.2; let u2 := u1.1; let u3 := u2.2; let u4 := u3.2; let u5 := u4.2; let u6 := u5.2; let u7 := u6.2; let u8 := u7.2; let u9 := u8.2; let u10 := u9.2.2; let u11 := u10.2; let u12 := u11.2; let u13 := u12.2; let u14 := u13.2; let u15 := u14.2; let u16 := u15.2; let u17 := u16.2; let u18 := u17.2; let u19 := u18.2; let u20 := u19.2; let u21 := u20.2; let u22 := u21.2; let u23 := u22.2; let u24 := u23.2; let u25 := u24.2; let u26 := u25.2; let u27 := u26.2; let u28 := u27.2; let u29 := u28.2.2; let u30 := u29.2.2.2.2.2.2.2.2.2; (c21 ((u2.1, (u3.1, (u4.1, (h4.1, (h5.1, (h6.1, (h7.1, (h8.1, (h9.1, (h10.1, (h11.1, (h12.1, (h13.1, (h14.1, (h15.1, (h16.1, (h17.1, (h18.1, (h19.1, (h20.1, (u21.1, (h22.1, (h23.1, (h24.1, (h25.1, (h26.1, (h27.1, (u28.1, (u28.2.1, (h30.1, (u29.2.1, (u29.2.2.1, (h33.1, (h34.1, (h35.1, (h36.1, (h36.2.1, (h37.1, (h37.2.1, (h37.2.2.1, u30.2.2)))))))))))))))))))))))))))))))))))))))), ((1 : Int), ()))).bind fun r11 =>
  bif (ltI r11.1.1 (0 : Int)) then (some ((false, ()), ()))
  else bif (neI r11.1.1 u0.1) then (some ((false, ()), ()))
  else (c17 (y.1, ())).bind fun r12 =>
  (c18 (r12.1.1, ())).bind fun r13 =>
  (c19 (r13.1.1, (r2.1.1, ()))).bind fun r14 =>
  bif (!r14.1.1) then (some ((false, ()), ()))
  else (c21 ((u2.1, (u3.1, (u4.1, (h4.1, (h5.1, (h6.1, (h7.1, (h8.1, (h9.1, (h10.1, (h11.1, (h12.1, (h13.1, (h14.1, (h15.1, (h16.1, (h17.1, (h18.1, (h19.1, (h20.1, (u21.1, (h22.1, (h23.1, (h24.1, (h25.1, (h26.1, (h27.1, (u28.1, (u28.2.1, (h30.1, (u29.2.1, (u29.2.2.1, (h33.1, (h34.1, (h35.1, (h36.1, (h36.2.1, (h37.1, (h37.2.1, (h37.2.2.1, u30.2.2)))))))))))))))))))))))))))))))))))))))), ((1 : Int), ()))).bind fun r15 =>
  bif (ltI r15.1.1 (0 : Int)) then (some ((false, ()), ()))
  else bif (neI r15.1.1 u0.1) then (some ((false, ()), ()))
  else some ((true, ()), ())
noncomputable def E3 (c18 : F18) (c19 : F19) (c21 : F21) (c20 : F20) (c15 : F15) (c17 : F17) (c16 : F16) := mkE [g18 c18, g19 c19, g21 c21, g20 c20, g15 c15, g17 c17, g16 c16]
theorem s3 (c18 : F18) (c19 : F19) (c21 : F21) (c20 : F20) (c15 : F15) (c17 : F17) (c16 : F16)  (y) : tevF (E3 c18 c19 c21 c20 c15 c17 c16 ) Tryz.f3 i3 o3 y = m3 c18 c19 c21 c20 c15 c17 c16  y := by kernel_rfl
noncomputable def r3 : F3 := m3 r18 r19 r21 r20 r15 r17 r16 
theorem k3 : CK Tryz.prog (g3 r3) := fn0 (s3 r18 r19 r21 r20 r15 r17 r16) (fnsL_ok ⟨k18, k19, k21, k20, k15, k17, k16, trivial⟩) rfl mixed (by kernel_rfl) (by kernel_rfl) (by kernel_rfl)
end Go.Proofs.YtanoofbkhddokaaGreat.Plain
